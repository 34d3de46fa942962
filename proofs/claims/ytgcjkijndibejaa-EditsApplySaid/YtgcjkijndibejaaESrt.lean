/- The stable sort's plain law: what it makes of tags is ascending in the order made strict by the tags. Conditions: as each lemma says. -/
import Derived.Test.YtgcjkijndibejaaEStb
set_option linter.unusedVariables false
set_option linter.unusedSimpArgs false
namespace Go.Proofs.Ytgcjkijndibejaa.Srt
open Go.Sort

/-! ### a search -/
theorem bsl_spec (p : Nat → Bool) : ∀ (f i j : Nat), j - i ≤ f → i ≤ j → (∀ c c', i ≤ c → c ≤ c' → c' < j → p c = false → p c' = false) →
    i ≤ bsl p f i j ∧ bsl p f i j ≤ j ∧ (∀ c, i ≤ c → c < bsl p f i j → p c = true) ∧ ∀ c, bsl p f i j ≤ c → c < j → p c = false := by
  intro f
  induction f with
  | zero =>
    intro i j h1 h2 _
    rw [bsl_stop _ _ _ _ (by omega)]
    exact ⟨Nat.le_refl _, h2, fun c h3 h4 => by omega, fun c h3 h4 => by omega⟩
  | succ f ih =>
    intro i j h1 h2 hm
    by_cases h : i < j
    · rw [bsl_go _ _ _ _ h]
      by_cases hp : p ((i + j) / 2) = true
      · rw [if_pos hp]
        obtain ⟨r1, r2, r3, r4⟩ := ih ((i + j) / 2 + 1) j (by omega) (by omega) (fun c c' h3 h4 h5 => hm c c' (by omega) h4 h5)
        refine ⟨by omega, r2, fun c h3 h4 => ?_, r4⟩
        by_cases hc : c ≤ (i + j) / 2
        · cases hpc : p c with
          | true => rfl
          | false => rw [hm c ((i + j) / 2) h3 hc (by omega) hpc] at hp; cases hp
        · exact r3 c (by omega) h4
      · rw [if_neg hp]
        have hp' : p ((i + j) / 2) = false := by simpa using hp
        obtain ⟨r1, r2, r3, r4⟩ := ih i ((i + j) / 2) (by omega) (by omega) (fun c c' h3 h4 h5 => hm c c' h3 h4 (by omega))
        refine ⟨r1, by omega, r3, fun c h3 h4 => ?_⟩
        by_cases hc : c < (i + j) / 2
        · exact r4 c h3 hc
        · exact hm ((i + j) / 2) c (by omega) (by omega) h4 hp'
    · rw [bsl_stop _ _ _ _ h]
      exact ⟨Nat.le_refl _, h2, fun c h3 h4 => by omega, fun c h3 h4 => by omega⟩
/-! ### exchanges -/
theorem swpN_get (d : Array Nat) (a b : Nat) : ∀ n, a + n ≤ b → b + n ≤ d.size → ∀ x, (swpN d a b n)[x]! = d[if a ≤ x ∧ x < a + n then x - a + b else if b ≤ x ∧ x < b + n then x - b + a else x]! := by
  intro n
  induction n with
  | zero =>
    intro _ _ x
    rw [if_neg (by omega), if_neg (by omega)]
    rfl
  | succ n ih =>
    intro h1 h2 x
    unfold swpN
    rw [swp_get _ (by rw [size_swpN]; omega) (by rw [size_swpN]; omega), ih (by omega) (by omega), ih (by omega) (by omega), ih (by omega) (by omega)]
    by_cases e1 : x = b + n
    · subst e1
      rw [if_pos rfl]
      congr 1
      rw [if_neg (by omega), if_neg (by omega), if_neg (by omega), if_pos (by omega)]
      omega
    · rw [if_neg e1]
      by_cases e2 : x = a + n
      · subst e2
        rw [if_pos rfl]
        congr 1
        rw [if_neg (by omega), if_neg (by omega), if_pos (by omega)]
        omega
      · rw [if_neg e2]
        congr 1
        by_cases e3 : a ≤ x ∧ x < a + n
        · rw [if_pos e3, if_pos (by omega)]
        · rw [if_neg e3, if_neg (show ¬ (a ≤ x ∧ x < a + (n + 1)) by omega)]
          by_cases e4 : b ≤ x ∧ x < b + n
          · rw [if_pos e4, if_pos (by omega)]
          · rw [if_neg e4, if_neg (by omega)]
theorem swpN_perm (d : Array Nat) (a b lo hi : Nat) (hlo : lo ≤ a) (hlo2 : lo ≤ b) : ∀ n, a + n ≤ hi → b + n ≤ hi → hi ≤ d.size → PermIn lo hi d (swpN d a b n) := by
  intro n
  induction n with
  | zero => intro _ _ _; exact permIn_refl _ _ _
  | succ n ih =>
    intro h1 h2 h3
    unfold swpN
    exact permIn_trans _ _ _ _ _ (ih (by omega) (by omega) h3) (swp_permIn _ lo hi (a + n) (b + n) (by omega) (by omega) (by omega) (by omega) (by rw [size_swpN]; exact h3))
def rotI (p m q x : Nat) : Nat := if x < p then x else if x < p + (q - m) then x + (m - p) else if x < q then x - (q - m) else x
theorem rotL_get (m : Nat) : ∀ (f i j : Nat) (d : Array Nat), i + j ≤ f → 1 ≤ i → 1 ≤ j → i ≤ m → m + j ≤ d.size → ∀ x, (rotL m f i j d)[x]! = d[rotI (m - i) m (m + j) x]! := by
  intro f
  induction f with
  | zero => intro i j d h1 h2; omega
  | succ f ih =>
    intro i j d h1 h2 h3 h4 h5 x
    unfold rotL
    by_cases hij : i = j
    · subst hij
      rw [if_pos rfl, swpN_get _ _ _ _ (by omega) (by omega)]
      congr 1
      unfold rotI
      by_cases e1 : m - i ≤ x ∧ x < m - i + i
      · rw [if_pos e1, if_neg (by omega), if_pos (by omega)]; omega
      · rw [if_neg e1]
        by_cases e2 : m ≤ x ∧ x < m + i
        · rw [if_pos e2, if_neg (by omega), if_neg (by omega), if_pos (by omega)]; omega
        · rw [if_neg e2]
          by_cases e3 : x < m - i
          · rw [if_pos e3]
          · rw [if_neg e3, if_neg (by omega), if_neg (by omega)]
    · rw [if_neg hij]
      by_cases hlt : j < i
      · rw [if_pos hlt, ih (i - j) j _ (by omega) (by omega) h3 (by omega) (by rw [size_swpN]; exact h5), swpN_get _ _ _ _ (by omega) (by omega)]
        congr 1
        unfold rotI
        by_cases c1 : x < m - i
        · simp only [if_pos (show x < m - (i - j) by omega), if_pos c1]
          rw [if_neg (by omega), if_neg (by omega)]
        · by_cases c2 : x < m - i + j
          · simp only [if_pos (show x < m - (i - j) by omega), if_neg c1]
            rw [if_pos (by omega), if_pos (by omega)]
            omega
          · by_cases c3 : x < m - (i - j) + j
            · simp only [if_neg (show ¬ x < m - (i - j) by omega), if_pos (show x < m - (i - j) + (m + j - m) by omega), if_neg c1]
              rw [if_neg (by omega), if_pos (by omega), if_neg (by omega), if_pos (by omega)]
              omega
            · by_cases c4 : x < m + j
              · simp only [if_neg (show ¬ x < m - (i - j) by omega), if_neg (show ¬ x < m - (i - j) + (m + j - m) by omega), if_pos c4, if_neg c1]
                rw [if_neg (by omega), if_neg (by omega), if_neg (by omega)]
              · simp only [if_neg (show ¬ x < m - (i - j) by omega), if_neg (show ¬ x < m - (i - j) + (m + j - m) by omega), if_neg c4, if_neg c1]
                rw [if_neg (by omega), if_neg (by omega), if_neg (by omega)]
      · rw [if_neg hlt, ih i (j - i) _ (by omega) h2 (by omega) h4 (by rw [size_swpN]; omega), swpN_get _ _ _ _ (by omega) (by omega)]
        congr 1
        unfold rotI
        by_cases c1 : x < m - i
        · simp only [if_pos c1]
          rw [if_neg (by omega), if_neg (by omega)]
        · by_cases c2 : x < m - i + (j - i)
          · simp only [if_neg c1, if_pos (show x < m - i + (m + (j - i) - m) by omega)]
            rw [if_pos (show x < m - i + (m + j - m) by omega)]
            by_cases c3 : x + (m - (m - i)) < m + j - i
            · rw [if_neg (by omega), if_neg (by omega)]
            · omega
          · by_cases c3 : x < m + (j - i)
            · simp only [if_neg c1, if_neg (show ¬ x < m - i + (m + (j - i) - m) by omega), if_pos c3]
              by_cases c4 : x < m - i + (m + j - m)
              · rw [if_pos c4, if_pos (by omega)]
                omega
              · omega
            · simp only [if_neg c1, if_neg (show ¬ x < m - i + (m + (j - i) - m) by omega), if_neg c3]
              by_cases c4 : x < m + j
              · rw [if_neg (by omega), if_pos (by omega), if_neg (by omega), if_pos c4]
                omega
              · rw [if_neg (by omega), if_neg (by omega), if_neg (by omega), if_neg c4]
theorem rotL_perm (m lo hi : Nat) : ∀ (f i j : Nat) (d : Array Nat), i + j ≤ f → 1 ≤ i → 1 ≤ j → i ≤ m → lo ≤ m - i → m + j ≤ hi → hi ≤ d.size → PermIn lo hi d (rotL m f i j d) := by
  intro f
  induction f with
  | zero => intro i j d h1 h2; omega
  | succ f ih =>
    intro i j d h0 hi1 hj1 h1 h2 h3 h4
    unfold rotL
    by_cases hij : i = j
    · subst hij
      rw [if_pos rfl]
      exact swpN_perm d _ _ _ _ h2 (by omega) _ (by omega) (by omega) h4
    · rw [if_neg hij]
      by_cases hlt : j < i
      · rw [if_pos hlt]
        exact permIn_trans _ _ _ _ _ (swpN_perm d (m - i) m lo hi h2 (by omega) j (by omega) (by omega) h4) (ih (i - j) j _ (by omega) (by omega) hj1 (by omega) (by omega) h3 (by rw [size_swpN]; exact h4))
      · rw [if_neg hlt]
        exact permIn_trans _ _ _ _ _ (swpN_perm d (m - i) (m + j - i) lo hi h2 (by omega) i (by omega) (by omega) h4) (ih i (j - i) _ (by omega) hi1 (by omega) h1 h2 (by omega) (by rw [size_swpN]; exact h4))
theorem shiftU_get (d : Array Nat) (a : Nat) : ∀ n, a + n < d.size → ∀ x, (shiftU d a n)[x]! = d[if a ≤ x ∧ x < a + n then x + 1 else if x = a + n then a else x]! := by
  intro n
  induction n with
  | zero =>
    intro _ x
    rw [if_neg (by omega)]
    by_cases h : x = a + 0
    · rw [if_pos h, h]; rfl
    · rw [if_neg h]; rfl
  | succ n ih =>
    intro h1 x
    unfold shiftU
    rw [swp_get _ (by rw [size_shiftU]; omega) (by rw [size_shiftU]; omega), ih (by omega), ih (by omega), ih (by omega)]
    by_cases e1 : x = a + n + 1
    · subst e1
      rw [if_pos rfl]
      congr 1
      rw [if_neg (by omega), if_pos rfl, if_neg (by omega), if_pos (by omega)]
    · rw [if_neg e1]
      by_cases e2 : x = a + n
      · subst e2
        rw [if_pos rfl]
        congr 1
        rw [if_neg (by omega), if_neg (by omega), if_pos (by omega)]
      · rw [if_neg e2]
        congr 1
        by_cases e3 : a ≤ x ∧ x < a + n
        · rw [if_pos e3, if_pos (by omega)]
        · rw [if_neg e3, if_neg e2, if_neg (by omega), if_neg (by omega)]
theorem shiftU_perm (d : Array Nat) (a lo hi : Nat) (hlo : lo ≤ a) : ∀ n, a + n < hi → hi ≤ d.size → PermIn lo hi d (shiftU d a n) := by
  intro n
  induction n with
  | zero => intro _ _; exact permIn_refl _ _ _
  | succ n ih =>
    intro h1 h2
    unfold shiftU
    exact permIn_trans _ _ _ _ _ (ih (by omega) h2) (swp_permIn _ lo hi _ _ (by omega) (by omega) (by omega) (by omega) (by rw [size_shiftU]; exact h2))
theorem shiftD_get (d : Array Nat) (m : Nat) (hm : m < d.size) : ∀ n, n ≤ m → ∀ x, (shiftD d m n)[x]! = d[if m - n < x ∧ x ≤ m then x - 1 else if x = m - n then m else x]! := by
  intro n
  induction n with
  | zero =>
    intro _ x
    rw [if_neg (by omega)]
    by_cases h : x = m - 0
    · rw [if_pos h, h]; rfl
    · rw [if_neg h]; rfl
  | succ n ih =>
    intro h1 x
    unfold shiftD
    rw [swp_get _ (by rw [size_shiftD]; omega) (by rw [size_shiftD]; omega), ih (by omega), ih (by omega), ih (by omega)]
    by_cases e1 : x = m - n - 1
    · subst e1
      rw [if_pos rfl]
      congr 1
      rw [if_neg (by omega), if_pos rfl, if_neg (by omega), if_pos (by omega)]
    · rw [if_neg e1]
      by_cases e2 : x = m - n
      · subst e2
        rw [if_pos rfl]
        congr 1
        rw [if_neg (by omega), if_neg (by omega), if_pos (by omega)]
      · rw [if_neg e2]
        congr 1
        by_cases e3 : m - n < x ∧ x ≤ m
        · rw [if_pos e3, if_pos (by omega)]
        · rw [if_neg e3, if_neg e2, if_neg (by omega), if_neg (by omega)]
theorem shiftD_perm (d : Array Nat) (m lo hi : Nat) (hm : m < hi) (hhi : hi ≤ d.size) : ∀ n, lo + n ≤ m → PermIn lo hi d (shiftD d m n) := by
  intro n
  induction n with
  | zero => intro _; exact permIn_refl _ _ _
  | succ n ih =>
    intro h1
    unfold shiftD
    exact permIn_trans _ _ _ _ _ (ih (by omega)) (swp_permIn _ lo hi _ _ (by omega) (by omega) (by omega) (by omega) (by rw [size_shiftD]; exact hhi))
/-! ### symMerge -/
section
variable {lt slt : Nat → Nat → Bool} (hS : SWO slt) (hag : ∀ x y, y < x → lt x y = slt x y)
include hS
theorem slt_mono {x y x' y' : Nat} (h : slt x y = true) (hx : slt x x' = false) (hy : slt y' y = false) : slt x' y' = true := by
  cases h2 : slt x' y' with
  | true => rfl
  | false => rw [hS.ntrans x x' y hx (hS.ntrans x' y' y h2 hy)] at h; cases h
theorem slt_nle {x y : Nat} (h : slt x y = true) : slt y x = false := by
  cases h2 : slt y x with
  | false => rfl
  | true => have := hS.trans x y x h h2; rw [hS.irrefl] at this; cases this
include hag
theorem symM_spec : ∀ (f : Nat) (d : Array Nat) (a m b : Nat), b - a ≤ f → a < m → m < b → b ≤ d.size → SortedIn slt a m d → SortedIn slt m b d → (∀ i j, a ≤ i → i < m → m ≤ j → j < b → d[i]! < d[j]!) →
    PermIn a b d (symM lt f d a m b) ∧ SortedIn slt a b (symM lt f d a m b) := by
  intro f
  induction f with
  | zero => intro d a m b h1 h2 h3; omega
  | succ f ih =>
    intro d a m b hf ham hmb hb hs1 hs2 htag
    have hlt : ∀ x y, m ≤ x → x < b → a ≤ y → y < m → lt d[x]! d[y]! = slt d[x]! d[y]! := fun x y h1 h2 h3 h4 => hag _ _ (htag y x h3 h4 h1 h2)
    have le2 : ∀ x y, m ≤ x → x ≤ y → y < b → slt d[y]! d[x]! = false := fun x y h1 h2 h3 => by
      by_cases e : x = y
      · rw [e]; exact hS.irrefl _
      · exact hs2 x y h1 (by omega) h3
    have le1 : ∀ x y, a ≤ x → x ≤ y → y < m → slt d[y]! d[x]! = false := fun x y h1 h2 h3 => by
      by_cases e : x = y
      · rw [e]; exact hS.irrefl _
      · exact hs1 x y h1 (by omega) h3
    by_cases h1 : m - a = 1
    · have e : symM lt (f + 1) d a m b = shiftU d a (bsl (fun h => lt d[h]! d[a]!) (b - m) m b - 1 - a) := by
        conv => lhs; unfold symM
        rw [if_pos h1]
      rw [e]
      obtain ⟨r1, r2, r3, r4⟩ := bsl_spec (fun h => lt d[h]! d[a]!) (b - m) m b (Nat.le_refl _) (by omega) (fun c c' h3 h4 h5 h6 => by
        have h6 : lt d[c]! d[a]! = false := h6
        show lt d[c']! d[a]! = false
        rw [hlt c a h3 (by omega) (Nat.le_refl _) ham] at h6
        rw [hlt c' a (by omega) h5 (Nat.le_refl _) ham]
        exact hS.ntrans _ _ _ (le2 c c' h3 h4 h5) h6)
      generalize bsl (fun h => lt d[h]! d[a]!) (b - m) m b = i at *
      have r3' : ∀ c, m ≤ c → c < i → slt d[c]! d[a]! = true := fun c h3 h4 => by rw [← hlt c a h3 (by omega) (Nat.le_refl _) ham]; exact r3 c h3 h4
      have r4' : ∀ c, i ≤ c → c < b → slt d[c]! d[a]! = false := fun c h3 h4 => by rw [← hlt c a (by omega) h4 (Nat.le_refl _) ham]; exact r4 c h3 h4
      refine ⟨shiftU_perm d a a b (Nat.le_refl _) _ (by omega) hb, fun x y h3 h4 h5 => ?_⟩
      have hg := shiftU_get d a (i - 1 - a) (by omega)
      rw [hg x, hg y]
      by_cases c1 : y < i - 1
      · rw [if_pos (by omega), if_pos (by omega)]
        exact le2 (x + 1) (y + 1) (by omega) (by omega) (by omega)
      · by_cases c2 : y = i - 1
        · rw [if_neg (show ¬ (a ≤ y ∧ y < a + (i - 1 - a)) by omega), if_pos (show y = a + (i - 1 - a) by omega), if_pos (by omega)]
          exact slt_nle hS (r3' (x + 1) (by omega) (by omega))
        · rw [if_neg (show ¬ (a ≤ y ∧ y < a + (i - 1 - a)) by omega), if_neg (show ¬ y = a + (i - 1 - a) by omega)]
          by_cases c3 : x < i - 1
          · rw [if_pos (by omega)]
            exact le2 (x + 1) y (by omega) (by omega) (by omega)
          · by_cases c4 : x = i - 1
            · rw [if_neg (by omega), if_pos (by omega)]
              exact r4' y (by omega) h5
            · rw [if_neg (by omega), if_neg (by omega)]
              exact le2 x y (by omega) (by omega) h5
    by_cases h2 : b - m = 1
    · have e : symM lt (f + 1) d a m b = shiftD d m (m - bsl (fun h => !lt d[m]! d[h]!) (m - a) a m) := by
        conv => lhs; unfold symM
        rw [if_neg h1, if_pos h2]
      rw [e]
      obtain ⟨r1, r2, r3, r4⟩ := bsl_spec (fun h => !lt d[m]! d[h]!) (m - a) a m (Nat.le_refl _) (by omega) (fun c c' h3 h4 h5 h6 => by
        simp only [Bool.not_eq_false'] at h6 ⊢
        rw [hlt m c (Nat.le_refl _) hmb h3 (by omega)] at h6
        rw [hlt m c' (Nat.le_refl _) hmb (by omega) h5]
        exact slt_mono hS h6 (hS.irrefl _) (le1 c c' h3 h4 h5))
      generalize bsl (fun h => !lt d[m]! d[h]!) (m - a) a m = i at *
      have r3' : ∀ c, a ≤ c → c < i → slt d[m]! d[c]! = false := fun c h3 h4 => by have := r3 c h3 h4; simp only [Bool.not_eq_true'] at this; rw [← hlt m c (Nat.le_refl _) hmb h3 (by omega)]; exact this
      have r4' : ∀ c, i ≤ c → c < m → slt d[m]! d[c]! = true := fun c h3 h4 => by have := r4 c h3 h4; simp only [Bool.not_eq_false'] at this; rw [← hlt m c (Nat.le_refl _) hmb (by omega) h4]; exact this
      refine ⟨shiftD_perm d m a b hmb hb _ (by omega), fun x y h3 h4 h5 => ?_⟩
      have hg := shiftD_get d m (by omega) (m - i) (by omega)
      rw [hg x, hg y]
      by_cases c1 : y < i
      · rw [if_neg (show ¬ (m - (m - i) < y ∧ y ≤ m) by omega), if_neg (show ¬ y = m - (m - i) by omega), if_neg (by omega), if_neg (by omega)]
        exact le1 x y h3 (by omega) (by omega)
      · by_cases c2 : y = i
        · rw [if_neg (show ¬ (m - (m - i) < y ∧ y ≤ m) by omega), if_pos (show y = m - (m - i) by omega), if_neg (by omega), if_neg (by omega)]
          exact r3' x h3 (by omega)
        · rw [if_pos (show m - (m - i) < y ∧ y ≤ m by omega)]
          by_cases c3 : x < i
          · rw [if_neg (by omega), if_neg (by omega)]
            exact le1 x (y - 1) h3 (by omega) (by omega)
          · by_cases c4 : x = i
            · rw [if_neg (by omega), if_pos (by omega)]
              exact slt_nle hS (r4' (y - 1) (by omega) (by omega))
            · rw [if_pos (by omega)]
              exact le1 (x - 1) (y - 1) (by omega) (by omega) (by omega)
    obtain ⟨mid, hmid⟩ : ∃ z, z = (a + b) / 2 := ⟨_, rfl⟩
    obtain ⟨n, hn⟩ : ∃ z, z = mid + m := ⟨_, rfl⟩
    obtain ⟨s0, hs0⟩ : ∃ z, z = if mid < m then n - b else a := ⟨_, rfl⟩
    obtain ⟨r0, hr0⟩ : ∃ z, z = if mid < m then mid else m := ⟨_, rfl⟩
    have hc : a ≤ s0 ∧ s0 ≤ r0 ∧ r0 ≤ m ∧ n ≤ b + s0 ∧ m + r0 ≤ n ∧ (s0 = a ∨ n = b + s0) ∧ (r0 = m ∨ n = m + r0) := by
      by_cases hmm : mid < m
      · rw [if_pos hmm] at hs0 hr0; omega
      · rw [if_neg hmm] at hs0 hr0; omega
    obtain ⟨k1, k2, k3, k4, k5, k6, k7⟩ := hc
    have hP : ∀ c, s0 ≤ c → c < r0 → lt d[n - 1 - c]! d[c]! = slt d[n - 1 - c]! d[c]! := fun c h3 h4 => hlt _ _ (by omega) (by omega) (by omega) (by omega)
    obtain ⟨r1, r2, r3, r4⟩ := bsl_spec (fun c => !lt d[n - 1 - c]! d[c]!) (r0 - s0) s0 r0 (Nat.le_refl _) k2 (fun c c' h3 h4 h5 h6 => by
      simp only [Bool.not_eq_false'] at h6 ⊢
      rw [hP c h3 (by omega)] at h6
      rw [hP c' (by omega) h5]
      exact slt_mono hS h6 (le2 _ _ (by omega) (by omega) (by omega)) (le1 c c' (by omega) h4 (by omega)))
    obtain ⟨st, hst⟩ : ∃ z, z = bsl (fun c => !lt d[n - 1 - c]! d[c]!) (r0 - s0) s0 r0 := ⟨_, rfl⟩
    obtain ⟨en, hen⟩ : ∃ z, z = n - st := ⟨_, rfl⟩
    rw [symM_3 lt f d a m b mid n s0 r0 st en h1 h2 hmid hn hs0 hr0 hst hen]
    rw [← hst] at r1 r2 r3 r4
    have r3' : ∀ c, s0 ≤ c → c < st → slt d[n - 1 - c]! d[c]! = false := fun c h3 h4 => by have := r3 c h3 h4; simp only [Bool.not_eq_true'] at this; rw [← hP c h3 (by omega)]; exact this
    have r4' : ∀ c, st ≤ c → c < r0 → slt d[n - 1 - c]! d[c]! = true := fun c h3 h4 => by have := r4 c h3 h4; simp only [Bool.not_eq_false'] at this; rw [← hP c (by omega) h4]; exact this
    have e1 : en + st = n := by omega
    have e2 : m ≤ en ∧ en ≤ b ∧ a ≤ st ∧ st ≤ m := by omega
    obtain ⟨e3, e4, e5, e6⟩ := e2
    have e7 : mid + m = en + st := by omega
    have emid : a < mid ∧ mid < b := by omega
    clear hst r3 r4 hs0 hr0
    -- the four crossings
    have X12 : ∀ c e, a ≤ c → c < st → en ≤ e → e < b → slt d[e]! d[c]! = false := fun c e h3 h4 h5 h6 => by
      rcases k6 with q | q
      · have h7 := r3' (st - 1) (by omega) (by omega)
        rw [show n - 1 - (st - 1) = en by omega] at h7
        exact hS.ntrans _ _ _ (le2 en e (by omega) h5 h6) (hS.ntrans _ _ _ h7 (le1 c (st - 1) h3 (by omega) (by omega)))
      · by_cases hst0 : st = s0
        · omega
        · have h7 := r3' (st - 1) (by omega) (by omega)
          rw [show n - 1 - (st - 1) = en by omega] at h7
          exact hS.ntrans _ _ _ (le2 en e (by omega) h5 h6) (hS.ntrans _ _ _ h7 (le1 c (st - 1) h3 (by omega) (by omega)))
    have X21 : ∀ e c, m ≤ e → e < en → st ≤ c → c < m → slt d[c]! d[e]! = false := fun e c h3 h4 h5 h6 => by
      by_cases hst0 : st = r0
      · omega
      · have h7 := r4' st (Nat.le_refl _) (by omega)
        rw [show n - 1 - st = en - 1 by omega] at h7
        exact slt_nle hS (slt_mono hS h7 (le2 e (en - 1) h3 (by omega) (by omega)) (le1 st c e5 h5 h6))
    -- the rotation
    obtain ⟨d1, hd1⟩ : ∃ z, z = if st < m ∧ m < en then rotL m (en - st) (m - st) (en - m) d else d := ⟨_, rfl⟩
    have g1 : ∀ x, d1[x]! = d[rotI st m en x]! := by
      intro x
      rw [hd1]
      by_cases h : st < m ∧ m < en
      · rw [if_pos h, rotL_get m (en - st) (m - st) (en - m) d (by omega) (by omega) (by omega) (by omega) (by omega), show m - (m - st) = st by omega, show m + (en - m) = en by omega]
      · rw [if_neg h]
        congr 1
        unfold rotI
        by_cases h3 : x < st
        · rw [if_pos h3]
        · rw [if_neg h3]
          by_cases h4 : x < st + (en - m)
          · rw [if_pos h4]; omega
          · rw [if_neg h4]
            by_cases h5 : x < en
            · rw [if_pos h5]; omega
            · rw [if_neg h5]
    have p1 : PermIn a b d d1 := by
      rw [hd1]
      by_cases h : st < m ∧ m < en
      · rw [if_pos h]
        exact rotL_perm m a b (en - st) (m - st) (en - m) d (by omega) (by omega) (by omega) (by omega) (by omega) (by omega) hb
      · rw [if_neg h]; exact permIn_refl _ _ _
    have z1 : d1.size = d.size := p1.1
    have f1 : ∀ x, a ≤ x → x < st → d1[x]! = d[x]! := fun x h3 h4 => by rw [g1]; unfold rotI; rw [if_pos h4]
    have f2 : ∀ x, st ≤ x → x < mid → d1[x]! = d[x + (m - st)]! := fun x h3 h4 => by rw [g1]; unfold rotI; rw [if_neg (by omega), if_pos (by omega)]
    have f3 : ∀ x, mid ≤ x → x < en → d1[x]! = d[x - (en - m)]! := fun x h3 h4 => by rw [g1]; unfold rotI; rw [if_neg (by omega), if_neg (by omega), if_pos (by omega)]
    have f4 : ∀ x, en ≤ x → d1[x]! = d[x]! := fun x h3 => by rw [g1]; unfold rotI; rw [if_neg (by omega), if_neg (by omega), if_neg (by omega)]
    have e8 : st ≤ mid ∧ mid ≤ en := by omega
    have cross : ∀ x y, a ≤ x → x < mid → mid ≤ y → y < b → slt d1[y]! d1[x]! = false := fun x y h3 h4 h5 h6 => by
      by_cases hx : x < st
      · rw [f1 x h3 hx]
        by_cases hy : y < en
        · rw [f3 y h5 hy]; exact le1 x _ h3 (by omega) (by omega)
        · rw [f4 y (by omega)]; exact X12 x y h3 hx (by omega) h6
      · rw [f2 x (by omega) h4]
        by_cases hy : y < en
        · rw [f3 y h5 hy]; exact X21 _ _ (by omega) (by omega) (by omega) (by omega)
        · rw [f4 y (by omega)]; exact le2 _ y (by omega) (by omega) h6
    -- the first half
    obtain ⟨d2, hd2⟩ : ∃ z, z = if a < st ∧ st < mid then symM lt f d1 a st mid else d1 := ⟨_, rfl⟩
    have Q2 : PermIn a mid d1 d2 ∧ SortedIn slt a mid d2 := by
      rw [hd2]
      by_cases h : a < st ∧ st < mid
      · rw [if_pos h]
        refine ih d1 a st mid (by omega) h.1 h.2 (by omega) (fun x y h3 h4 h5 => ?_) (fun x y h3 h4 h5 => ?_) (fun x y h3 h4 h5 h6 => ?_)
        · rw [f1 x h3 (by omega), f1 y (by omega) h5]; exact le1 x y h3 (by omega) (by omega)
        · rw [f2 x h3 (by omega), f2 y (by omega) h5]; exact le2 _ _ (by omega) (by omega) (by omega)
        · rw [f1 x h3 h4, f2 y h5 h6]; exact htag _ _ h3 (by omega) (by omega) (by omega)
      · rw [if_neg h]
        refine ⟨permIn_refl _ _ _, fun x y h3 h4 h5 => ?_⟩
        by_cases hx : y < st
        · rw [f1 x h3 (by omega), f1 y (by omega) hx]; exact le1 x y h3 (by omega) (by omega)
        · rw [f2 x (by omega) (by omega), f2 y (by omega) h5]; exact le2 _ _ (by omega) (by omega) (by omega)
    have z2 : d2.size = d.size := Q2.1.1.trans z1
    have o2 : ∀ y, mid ≤ y → d2[y]! = d1[y]! := fun y h3 => Q2.1.2.1 y (.inr h3)
    have cross2 : ∀ x y, a ≤ x → x < mid → mid ≤ y → y < b → slt d2[y]! d2[x]! = false := fun x y h3 h4 h5 h6 => by
      rw [o2 y h5]
      exact permIn_all d1 d2 a mid (fun z => slt d1[y]! z = false) (by omega) Q2.1 (fun x h3 h4 => cross x y h3 h4 h5 h6) x h3 h4
    -- the second half
    have hT : symT (symM lt f) d a m b mid st en = if mid < en ∧ en < b then symM lt f d2 mid en b else d2 := by
      rw [hd2, hd1]; rfl
    have Q3 : PermIn mid b d2 (if mid < en ∧ en < b then symM lt f d2 mid en b else d2) ∧ SortedIn slt mid b (if mid < en ∧ en < b then symM lt f d2 mid en b else d2) := by
      by_cases h : mid < en ∧ en < b
      · rw [if_pos h]
        refine ih d2 mid en b (by omega) h.1 h.2 (by omega) (fun x y h3 h4 h5 => ?_) (fun x y h3 h4 h5 => ?_) (fun x y h3 h4 h5 h6 => ?_)
        · rw [o2 x h3, o2 y (by omega), f3 x h3 (by omega), f3 y (by omega) h5]; exact le1 _ _ (by omega) (by omega) (by omega)
        · rw [o2 x (by omega), o2 y (by omega), f4 x h3, f4 y (by omega)]; exact le2 _ _ (by omega) (by omega) h5
        · rw [o2 x h3, o2 y (by omega), f3 x h3 h4, f4 y h5]; exact htag _ _ (by omega) (by omega) (by omega) h6
      · rw [if_neg h]
        refine ⟨permIn_refl _ _ _, fun x y h3 h4 h5 => ?_⟩
        rw [o2 x h3, o2 y (by omega)]
        by_cases hx : y < en
        · rw [f3 x h3 (by omega), f3 y (by omega) hx]; exact le1 _ _ (by omega) (by omega) (by omega)
        · rw [f4 x (by omega), f4 y (by omega)]; exact le2 _ _ (by omega) (by omega) h5
    rw [hT]
    generalize (if mid < en ∧ en < b then symM lt f d2 mid en b else d2) = d3 at *
    refine ⟨permIn_trans _ _ _ _ _ p1 (permIn_trans _ _ _ _ _ (permIn_mono d1 d2 a mid a b (Nat.le_refl _) (by omega) (by omega) Q2.1) (permIn_mono d2 d3 mid b a b (by omega) (Nat.le_refl _) (by omega) Q3.1)), fun x y h3 h4 h5 => ?_⟩
    have o3 : ∀ x, x < mid → d3[x]! = d2[x]! := fun x h => Q3.1.2.1 x (.inl h)
    by_cases hy : y < mid
    · rw [o3 x (by omega), o3 y hy]; exact Q2.2 x y h3 h4 hy
    · by_cases hx : x < mid
      · rw [o3 x hx]
        exact permIn_all d2 d3 mid b (fun z => slt z d2[x]! = false) (by omega) Q3.1 (fun y h7 h8 => cross2 x y h3 hx h7 h8) y (by omega) h5
      · exact Q3.2 x y (by omega) h4 h5
omit hag in
omit hS in
theorem insInner_perm (lt : Nat → Nat → Bool) (a hi : Nat) : ∀ (j : Nat) (d : Array Nat), j < hi → hi ≤ d.size → PermIn a hi d (insInner lt a j d) := by
  intro j
  induction j with
  | zero => intro d _ _; exact permIn_refl _ _ _
  | succ j ih =>
    intro d h1 h2
    unfold insInner
    by_cases h : (decide (j + 1 > a) && lt d[j + 1]! d[j]!) = true
    · rw [if_pos h]
      simp only [Bool.and_eq_true, decide_eq_true_eq] at h
      exact permIn_trans _ _ _ _ _ (swp_permIn d a hi (j + 1) j (by omega) h1 (by omega) (by omega) h2) (ih _ (by omega) (by rw [size_swp]; exact h2))
    · rw [if_neg h]; exact permIn_refl _ _ _
omit hS in
theorem insInner_eq (a : Nat) : ∀ (j : Nat) (d : Array Nat), j < d.size → (∀ x, a ≤ x → x < j → d[x]! < d[j]!) → insInner lt a j d = insInner slt a j d := by
  intro j
  induction j with
  | zero => intro d _ _; rfl
  | succ j ih =>
    intro d h1 h
    unfold insInner
    by_cases ha : j + 1 > a
    · rw [hag _ _ (h j (by omega) (by omega))]
      split
      · refine ih _ (by rw [size_swp]; omega) (fun x h3 h4 => ?_)
        rw [swp_get _ h1 (by omega), swp_get _ h1 (by omega), if_neg (by omega), if_neg (by omega), if_pos rfl]
        exact h x h3 (by omega)
      · rfl
    · rw [decide_eq_false ha, Bool.false_and, Bool.false_and]
      rfl
omit hS in
theorem insOuter_eq (a b : Nat) : ∀ (n i : Nat) (d : Array Nat), b - i ≤ n → a ≤ i → b ≤ d.size → (∀ x y, a ≤ x → x < i → i ≤ y → y < b → d[x]! < d[y]!) → (∀ x y, i ≤ x → x < y → y < b → d[x]! < d[y]!) → insOuter lt a b i d = insOuter slt a b i d := by
  intro n
  induction n with
  | zero =>
    intro i d h1 _ _ _ _
    unfold insOuter
    rw [if_neg (by omega), if_neg (by omega)]
  | succ n ih =>
    intro i d h1 h2 h3 h4 h5
    by_cases h : i < b
    · conv => lhs; unfold insOuter
      conv => rhs; unfold insOuter
      rw [if_pos h, if_pos h, insInner_eq hag a i d (by omega) (fun x h6 h7 => h4 x i h6 h7 (Nat.le_refl _) h)]
      have hp := insInner_perm slt a (i + 1) i d (by omega) (by omega)
      have ho : ∀ y, i + 1 ≤ y → (insInner slt a i d)[y]! = d[y]! := fun y hy => hp.2.1 y (.inr hy)
      refine ih (i + 1) _ (by omega) (by omega) (by rw [hp.1]; exact h3) (fun x y h6 h7 h8 h9 => ?_) (fun x y h6 h7 h8 => ?_)
      · rw [ho y h8]
        refine permIn_all d _ a (i + 1) (fun z => z < d[y]!) (by omega) hp (fun x h10 h11 => ?_) x h6 h7
        by_cases hx : x < i
        · exact h4 x y h10 hx (by omega) h9
        · obtain rfl : x = i := by omega
          exact h5 x y (Nat.le_refl _) (by omega) h9
      · rw [ho x h6, ho y (by omega)]
        exact h5 x y (by omega) h7 h8
    · unfold insOuter
      rw [if_neg h, if_neg h]
theorem ins_spec (d : Array Nat) (a b : Nat) (hab : a ≤ b) (hb : b ≤ d.size) (h : ∀ x y, a ≤ x → x < y → y < b → d[x]! < d[y]!) : PermIn a b d (Sort.insertionSort lt d a b) ∧ SortedIn slt a b (Sort.insertionSort lt d a b) := by
  have e : Sort.insertionSort lt d a b = Sort.insertionSort slt d a b := by
    unfold Sort.insertionSort
    exact insOuter_eq hag a b _ (a + 1) d (Nat.le_refl _) (by omega) hb (fun x y h1 h2 h3 h4 => h x y h1 (by omega) h4) (fun x y h1 h2 h3 => h x y (by omega) h2 h3)
  rw [e]
  exact insertionSort_holds hS d a b hab hb
/-! ### runs -/
omit hS hag in
def Blk (slt : Nat → Nat → Bool) (d : Array Nat) (p q : Nat) : Prop := (∀ x, p ≤ x → x < q → p ≤ d[x]! ∧ d[x]! < q) ∧ SortedIn slt p q d
omit hS hag in
theorem Blk.congr {d d' : Array Nat} {p q : Nat} (h : Blk slt d p q) (he : ∀ x, p ≤ x → x < q → d'[x]! = d[x]!) : Blk slt d' p q :=
  ⟨fun x h1 h2 => by rw [he x h1 h2]; exact h.1 x h1 h2, fun x y h1 h2 h3 => by rw [he x h1 (by omega), he y (by omega) h3]; exact h.2 x y h1 h2 h3⟩
inductive Runs (slt : Nat → Nat → Bool) (n bs : Nat) (d : Array Nat) : Nat → Prop
  | done (a : Nat) : n ≤ a → Runs slt n bs d a
  | step (a : Nat) : a < n → Blk slt d a (min (a + bs) n) → Runs slt n bs d (a + bs) → Runs slt n bs d a
omit hS hag in
theorem Runs.congr {n bs : Nat} (hbs : 1 ≤ bs) {d d' : Array Nat} : ∀ (m a : Nat), n - a ≤ m → Runs slt n bs d a → (∀ x, a ≤ x → d'[x]! = d[x]!) → Runs slt n bs d' a := by
  intro m
  induction m with
  | zero => intro a h1 _ _; exact .done a (by omega)
  | succ m ih =>
    intro a h1 h he
    cases h with
    | done _ h => exact .done a h
    | step _ h2 h3 h4 => exact .step a h2 (h3.congr (fun x h5 _ => he x h5)) (ih (a + bs) (by omega) h4 (fun x h5 => he x (by omega)))
omit hS hag in
theorem Runs.get {n bs a : Nat} {d : Array Nat} (h : Runs slt n bs d a) (ha : a < n) : Blk slt d a (min (a + bs) n) ∧ Runs slt n bs d (a + bs) := by
  cases h with
  | done _ h => omega
  | step _ _ h3 h4 => exact ⟨h3, h4⟩
theorem merge_blk (n a m b : Nat) (d : Array Nat) (hf : b - a ≤ n) (ham : a < m) (hmb : m < b) (hb : b ≤ d.size) (h1 : Blk slt d a m) (h2 : Blk slt d m b) : PermIn a b d (symM lt n d a m b) ∧ Blk slt (symM lt n d a m b) a b := by
  have h := symM_spec hS hag n d a m b hf ham hmb hb h1.2 h2.2 (fun i j h3 h4 h5 h6 => by
    have q1 := h1.1 i h3 h4
    have q2 := h2.1 j h5 h6
    omega)
  refine ⟨h.1, fun x h3 h4 => ?_, h.2⟩
  exact permIn_all d _ a b (fun z => a ≤ z ∧ z < b) hb h.1 (fun x h5 h6 => by
    by_cases hx : x < m
    · have := h1.1 x h5 hx; omega
    · have := h2.1 x (by omega) h6; omega) x h3 h4
theorem mrg_runs (n bs : Nat) (hbs : 1 ≤ bs) : ∀ (f a : Nat) (d : Array Nat), n - a ≤ f → a ≤ n → d.size = n → Runs slt n bs d a →
    Runs slt n (2 * bs) (mrgT lt n bs (mrg lt n bs f a d)) a ∧ PermIn a n d (mrgT lt n bs (mrg lt n bs f a d)) := by
  intro f
  induction f with
  | zero =>
    intro a d h1 h2 h3 h4
    have e : mrgT lt n bs (mrg lt n bs 0 a d) = d := by
      unfold mrg mrgT
      rw [if_neg (by simp only []; omega)]
    rw [e]
    exact ⟨.done a (by omega), permIn_refl _ _ _⟩
  | succ f ih =>
    intro a d h1 h2 h3 h4
    by_cases hlt : a + 2 * bs ≤ n
    · rw [mrg_go _ _ _ _ _ _ hlt]
      obtain ⟨b1, h5⟩ := h4.get (by omega)
      obtain ⟨b2, h6⟩ := h5.get (by omega)
      rw [show min (a + bs) n = a + bs by omega] at b1
      rw [show min (a + bs + bs) n = a + 2 * bs by omega] at b2
      rw [show a + bs + bs = a + 2 * bs by omega] at h6
      obtain ⟨p1, b3⟩ := merge_blk hS hag n a (a + bs) (a + 2 * bs) d (by omega) (by omega) (by omega) (by omega) b1 b2
      have z1 : (symM lt n d a (a + bs) (a + 2 * bs)).size = n := by rw [p1.1]; exact h3
      obtain ⟨r1, p2⟩ := ih (a + 2 * bs) _ (by omega) hlt z1 (h6.congr hbs _ _ (Nat.le_refl _) (fun x hx => p1.2.1 x (.inr hx)))
      refine ⟨.step a (by omega) ?_ r1, permIn_trans _ _ _ _ _ (permIn_mono _ _ _ _ a n (Nat.le_refl _) hlt (by omega) p1) (permIn_mono _ _ _ _ a n (by omega) (Nat.le_refl _) (by omega) p2)⟩
      rw [show min (a + 2 * bs) n = a + 2 * bs by omega]
      exact b3.congr (fun x _ hx => p2.2.1 x (.inl hx))
    · rw [mrg_stop _ _ _ _ _ _ hlt]
      unfold mrgT
      simp only []
      by_cases hm : a + bs < n
      · rw [if_pos hm]
        obtain ⟨b1, h5⟩ := h4.get (by omega)
        obtain ⟨b2, h6⟩ := h5.get (by omega)
        rw [show min (a + bs) n = a + bs by omega] at b1
        rw [show min (a + bs + bs) n = n by omega] at b2
        obtain ⟨p1, b3⟩ := merge_blk hS hag n a (a + bs) n d (by omega) (by omega) hm (by omega) b1 b2
        refine ⟨.step a (by omega) ?_ (.done _ (by omega)), p1⟩
        rw [show min (a + 2 * bs) n = n by omega]
        exact b3
      · rw [if_neg hm]
        refine ⟨?_, permIn_refl _ _ _⟩
        by_cases han : a < n
        · obtain ⟨b1, h5⟩ := h4.get han
          refine .step a han ?_ (.done _ (by omega))
          rw [show min (a + 2 * bs) n = min (a + bs) n by omega]
          exact b1
        · exact .done a (by omega)
theorem lvl_sorts (n : Nat) : ∀ (f bs : Nat) (d : Array Nat), n - bs ≤ f → 1 ≤ bs → d.size = n → Runs slt n bs d 0 → PermIn 0 n d (lvl lt n f bs d) ∧ SortedIn slt 0 n (lvl lt n f bs d) := by
  have fin : ∀ (bs : Nat) (d : Array Nat), ¬ bs < n → Runs slt n bs d 0 → SortedIn slt 0 n d := by
    intro bs d h1 h2
    by_cases hn : 0 < n
    · have := (h2.get hn).1
      rw [show min (0 + bs) n = n by omega] at this
      exact this.2
    · intro x y h3 h4 h5; omega
  intro f
  induction f with
  | zero =>
    intro bs d h1 h2 h3 h4
    rw [lvl_stop _ _ _ _ _ (by omega)]
    exact ⟨permIn_refl _ _ _, fin bs d (by omega) h4⟩
  | succ f ih =>
    intro bs d h1 h2 h3 h4
    by_cases hb : bs < n
    · rw [lvl_go _ _ _ _ _ hb]
      obtain ⟨r1, p1⟩ := mrg_runs hS hag n bs h2 n 0 d (by omega) (by omega) h3 h4
      obtain ⟨p2, s2⟩ := ih (bs * 2) _ (by omega) (by omega) (by rw [p1.1]; exact h3) (by rw [show bs * 2 = 2 * bs by omega]; exact r1)
      exact ⟨permIn_trans _ _ _ _ _ p1 p2, s2⟩
    · rw [lvl_stop _ _ _ _ _ hb]
      exact ⟨permIn_refl _ _ _, fin bs d hb h4⟩
theorem stb1_runs (n : Nat) : ∀ (f a : Nat) (d : Array Nat), n - a ≤ f → a ≤ n → d.size = n → (∀ x, a ≤ x → x < n → d[x]! = x) →
    Runs slt n 20 (Sort.insertionSort lt (stbA lt n f a d).2 (stbA lt n f a d).1 n) a ∧ PermIn a n d (Sort.insertionSort lt (stbA lt n f a d).2 (stbA lt n f a d).1 n) := by
  have blk : ∀ (a b : Nat) (d : Array Nat), a ≤ b → b ≤ d.size → (∀ x, a ≤ x → x < b → d[x]! = x) → PermIn a b d (Sort.insertionSort lt d a b) ∧ Blk slt (Sort.insertionSort lt d a b) a b := by
    intro a b d h1 h2 h3
    have h := ins_spec hS hag d a b h1 h2 (fun x y h4 h5 h6 => by rw [h3 x h4 (by omega), h3 y (by omega) h6]; exact h5)
    exact ⟨h.1, fun x h4 h5 => permIn_all d _ a b (fun z => a ≤ z ∧ z < b) h2 h.1 (fun x h6 h7 => by rw [h3 x h6 h7]; exact ⟨h6, h7⟩) x h4 h5, h.2⟩
  have last : ∀ (a : Nat) (d : Array Nat), ¬ a + 20 ≤ n → a ≤ n → d.size = n → (∀ x, a ≤ x → x < n → d[x]! = x) → Runs slt n 20 (Sort.insertionSort lt d a n) a ∧ PermIn a n d (Sort.insertionSort lt d a n) := by
    intro a d h1 h2 h3 h4
    obtain ⟨p, b⟩ := blk a n d h2 (by omega) h4
    refine ⟨?_, p⟩
    by_cases han : a < n
    · refine .step a han ?_ (.done _ (by omega))
      rw [show min (a + 20) n = n by omega]
      exact b
    · exact .done a (by omega)
  intro f
  induction f with
  | zero => intro a d h1 h2 h3 h4; exact last a d (by omega) h2 h3 h4
  | succ f ih =>
    intro a d h1 h2 h3 h4
    by_cases hlt : a + 20 ≤ n
    · rw [stbA_go _ _ _ _ _ hlt]
      obtain ⟨p1, b1⟩ := blk a (a + 20) d (by omega) (by omega) (fun x h5 h6 => h4 x h5 (by omega))
      obtain ⟨r2, p2⟩ := ih (a + 20) _ (by omega) hlt (by rw [p1.1]; exact h3) (fun x h5 h6 => by rw [p1.2.1 x (.inr h5)]; exact h4 x (by omega) h6)
      refine ⟨.step a (by omega) ?_ r2, permIn_trans _ _ _ _ _ (permIn_mono _ _ _ _ a n (Nat.le_refl _) hlt (by omega) p1) (permIn_mono _ _ _ _ a n (by omega) (Nat.le_refl _) (by rw [p1.1]; omega) p2)⟩
      rw [show min (a + 20) n = a + 20 by omega]
      exact b1.congr (fun x _ hx => p2.2.1 x (.inl hx))
    · rw [stbA_stop _ _ _ _ _ hlt]
      exact last a d hlt h2 h3 h4
/-- The stable sort, of tags in their order. -/
theorem stb_sorts (n : Nat) : PermIn 0 n (Array.range n) (stb lt (Array.range n)) ∧ SortedIn slt 0 n (stb lt (Array.range n)) := by
  have hz : (Array.range n).size = n := by simp
  obtain ⟨r1, p1⟩ := stb1_runs hS hag n n 0 (Array.range n) (by omega) (by omega) hz (fun x _ h => by simp [h])
  have e : stb lt (Array.range n) = lvl lt n n 20 (stb1 lt n (Array.range n)) := by unfold stb; rw [hz]
  rw [e]
  obtain ⟨p2, s2⟩ := lvl_sorts hS hag n n 20 (stb1 lt n (Array.range n)) (by omega) (by omega) (by exact p1.1.trans hz) r1
  exact ⟨permIn_trans _ _ _ _ _ p1 p2, s2⟩
end
end Go.Proofs.Ytgcjkijndibejaa.Srt

/-
  Plain numbers of the geometry: words, places, classes, spans, addresses (M1). No program here.
  Contracts of the geometry's functions, the program's and the reference's (K1).
  Contracts of bits.First, of heads and shapes, of the reference's geometry (K2).
  Contracts of shapes and of the reference's geometry and heads (K3).
  Contracts of the reference's heads and bits (K4).
  The arena on the heap, and its readers (K5).
  The arena's words and marks (K6).
  The arena made (K7).
  The arena's spans set and cleared (K8).
  A place taken in an arena's span (K9).
  The allocator made (K10). None of its spans is stale.
  A span begun by the allocator (K11).
  A place taken by the allocator (K12): the span that it takes it from.
  The grey queue (K13).
-/
import Derived.Test.YtkfdbgpegekcfaaGreatDoorXq
import Derived.Test.YtkfdbgpegekcfaaGreatDoorXr
import Derived.Test.YtkfdbgpegekcfaaGreatDoorXs
import Derived.Test.YtkfdbgpegekcfaaGreatDoorXb
import Derived.Laws.OwnMore

namespace Go.GLM

/-- Words of a class' places. -/
def wds (c : Int) : Int := if c = 0 then 2 else if c = 1 then 4 else if c = 2 then 8 else if c = 3 then 16 else if c = 4 then 32 else if c = 5 then 64 else 0
/-- Places of a span of a class. -/
def plc (c : Int) : Int := if c = 0 then 32 else if c = 1 then 16 else if c = 2 then 8 else if c = 3 then 4 else if c = 4 then 2 else if c = 5 then 1 else 0
/-- The least class whose places have so many words. -/
def cls (w : Int) : Int := if w < 1 then -1 else if w ≤ 2 then 0 else if w ≤ 4 then 1 else if w ≤ 8 then 2 else if w ≤ 16 then 3 else if w ≤ 32 then 4 else if w ≤ 64 then 5 else -1
def spn (a : Int) : Int := if a < 0 ∨ 32768 ≤ a then -1 else a / 64
def plOf (a c : Int) : Int := if wds c = 0 then -1 else if spn a = -1 then -1 else if (a % 64) % wds c ≠ 0 then -1 else (a % 64) / wds c
def adr (s p c : Int) : Int := if s < 1 ∨ 512 ≤ s ∨ p < 0 ∨ plc c ≤ p then 0 else s * 64 + p * wds c

theorem cls_cases (c : Int) : c = 0 ∨ c = 1 ∨ c = 2 ∨ c = 3 ∨ c = 4 ∨ c = 5 ∨ (c < 0 ∨ 5 < c) := by omega

theorem wds_bad {c : Int} (h : c < 0 ∨ 5 < c) : wds c = 0 := by
  unfold wds
  repeat rw [if_neg (by omega)]
theorem plc_bad {c : Int} (h : c < 0 ∨ 5 < c) : plc c = 0 := by
  unfold plc
  repeat rw [if_neg (by omega)]
theorem wds_bd (c : Int) : 0 ≤ wds c ∧ wds c ≤ 64 := by unfold wds; omega
theorem plc_bd (c : Int) : 0 ≤ plc c ∧ plc c ≤ 32 := by unfold plc; omega
theorem cls_bd (w : Int) : -1 ≤ cls w ∧ cls w ≤ 5 := by unfold cls; omega

end Go.GLM

namespace Go.Proofs.YtkfdbgpegekcfaaGreatDoorP
open Go Go.GL Go.GLM Go.Proofs

theorem geom_Words_C {x : Int} {h : H} {K : Int → H → Prop} (hk : K (wds x) h) : geom_Words.C x h K := by
  refine geom_Words.of ?_
  unfold geom_Words.S joinP
  refine split_of (fun h1 => ?_) fun h1 => split_of (fun h2 => ?_) fun h2 => ?_
  · have : x < 0 := by simpa using h1
    rw [wds_bad (by omega)] at hk
    exact hk
  · have : 6 ≤ x := by simpa using h2
    rw [wds_bad (by omega)] at hk
    exact hk
  · have h3 : ¬ x < 0 := by simpa using h1
    have h4 : ¬ 6 ≤ x := by simpa using h2
    rcases cls_cases x with rfl | rfl | rfl | rfl | rfl | rfl | h5
    · exact need_of (by decide) hk
    · exact need_of (by decide) hk
    · exact need_of (by decide) hk
    · exact need_of (by decide) hk
    · exact need_of (by decide) hk
    · exact need_of (by decide) hk
    · omega

theorem geom_Places_C {x : Int} {h : H} {K : Int → H → Prop} (hk : K (plc x) h) : geom_Places.C x h K := by
  refine geom_Places.of ?_
  unfold geom_Places.S
  refine geom_Words_C ?_
  rcases cls_cases x with rfl | rfl | rfl | rfl | rfl | rfl | h5
  · exact split_neg (by decide) (geom_Words_C (need_of (by decide) hk))
  · exact split_neg (by decide) (geom_Words_C (need_of (by decide) hk))
  · exact split_neg (by decide) (geom_Words_C (need_of (by decide) hk))
  · exact split_neg (by decide) (geom_Words_C (need_of (by decide) hk))
  · exact split_neg (by decide) (geom_Words_C (need_of (by decide) hk))
  · exact split_neg (by decide) (geom_Words_C (need_of (by decide) hk))
  · rw [plc_bad h5] at hk
    exact split_pos (by rw [wds_bad h5]; rfl) hk

theorem geom_Span_C {x : Int} {h : H} {K : Int → H → Prop} (hk : K (spn x) h) : geom_Span.C x h K := by
  refine geom_Span.of ?_
  unfold geom_Span.S joinP
  unfold spn at hk
  refine split_of (fun h1 => ?_) fun h1 => split_of (fun h2 => ?_) fun h2 => ?_
  · have : x < 0 := by simpa using h1
    rwa [if_pos (by omega)] at hk
  · have : 32768 ≤ x := by simpa using h2
    rwa [if_pos (by omega)] at hk
  · have h3 : ¬ x < 0 := by simpa using h1
    have h4 : ¬ 32768 ≤ x := by simpa using h2
    rw [if_neg (by omega)] at hk
    refine need_of (by decide) ?_
    rw [Int.tdiv_eq_ediv_of_nonneg (by omega), wrap64_id (by omega) (by omega)]
    exact hk

theorem geom_Place_C {x c : Int} {h : H} {K : Int → H → Prop} (hk : K (plOf x c) h) : geom_Place.C x c h K := by
  refine geom_Place.of ?_
  unfold geom_Place.S joinP
  unfold plOf at hk
  refine geom_Words_C ?_
  by_cases h1 : wds c = 0
  · rw [if_pos h1] at hk
    exact split_pos (by simp [h1]) hk
  · rw [if_neg h1] at hk
    refine split_neg (by simp [h1]) (geom_Span_C ?_)
    by_cases h2 : spn x = -1
    · rw [if_pos h2] at hk
      exact split_pos (by simp [h2]) hk
    · rw [if_neg h2] at hk
      refine split_neg (by simp [h2]) (need_of (by decide) (geom_Words_C (need_of h1 ?_)))
      have hx : 0 ≤ x := by
        unfold spn at h2
        by_cases h3 : x < 0 ∨ 32768 ≤ x
        · rw [if_pos h3] at h2; omega
        · omega
      have hb := wds_bd c
      have e1 : Int.tmod x 64 = x % 64 := Int.tmod_eq_emod_of_nonneg hx
      have e2 : Int.tmod (x % 64) (wds c) = x % 64 % wds c := Int.tmod_eq_emod_of_nonneg (by omega)
      have e3 : Int.tdiv (x % 64) (wds c) = x % 64 / wds c := Int.tdiv_eq_ediv_of_nonneg (by omega)
      rw [e1, e2]
      by_cases h4 : x % 64 % wds c = 0
      · rw [if_neg (by simp [h4])] at hk
        refine split_neg (by simp [h4]) (geom_Words_C (need_of h1 ?_))
        have h5 : 0 ≤ x % 64 / wds c := Int.ediv_nonneg (by omega) (by omega)
        have h6 : x % 64 / wds c ≤ x % 64 := Int.ediv_le_self _ (by omega)
        rw [e3, wrap64_id (by omega) (by omega)]
        exact hk
      · rw [if_pos h4] at hk
        exact split_pos (by simp [h4]) hk

theorem mul_bd {p c : Int} (h0 : 0 ≤ p) (h : p < plc c) : 0 ≤ p * wds c ∧ p * wds c + wds c ≤ 64 := by
  rcases cls_cases c with rfl | rfl | rfl | rfl | rfl | rfl | h5
  · simp only [plc, wds] at *; simp at *; omega
  · simp only [plc, wds] at *; simp at *; omega
  · simp only [plc, wds] at *; simp at *; omega
  · simp only [plc, wds] at *; simp at *; omega
  · simp only [plc, wds] at *; simp at *; omega
  · simp only [plc, wds] at *; simp at *; omega
  · rw [plc_bad h5] at h; omega

theorem geom_Addr_C {s p c : Int} {h : H} {K : Int → H → Prop} (hk : K (adr s p c) h) : geom_Addr.C s p c h K := by
  refine geom_Addr.of ?_
  unfold geom_Addr.S joinP
  unfold adr at hk
  refine split_of (fun h1 => ?_) fun h1 => split_of (fun h2 => ?_) fun h2 => split_of (fun h3 => ?_) fun h3 => geom_Places_C (split_of (fun h4 => ?_) fun h4 => geom_Words_C ?_)
  · have : s < 1 := by simpa using h1
    rwa [if_pos (by omega)] at hk
  · have : 512 ≤ s := by simpa using h2
    rwa [if_pos (by omega)] at hk
  · have : p < 0 := by simpa using h3
    rwa [if_pos (by omega)] at hk
  · have : plc c ≤ p := by simpa using h4
    rwa [if_pos (by omega)] at hk
  · have h1 : ¬ s < 1 := by simpa using h1
    have h2 : ¬ 512 ≤ s := by simpa using h2
    have h3 : ¬ p < 0 := by simpa using h3
    have h4 : ¬ plc c ≤ p := by simpa using h4
    rw [if_neg (by omega)] at hk
    obtain ⟨m1, m2⟩ := mul_bd (by omega) (Int.not_le.1 h4)
    have := wds_bd c
    rw [wrap64_id (x := s * 64) (by omega) (by omega), wrap64_id (x := p * wds c) (by omega) (by omega), wrap64_id (by omega) (by omega)]
    exact hk

theorem geom_Class_C {w : Int} {h : H} {K : Int → H → Prop} (hk : K (cls w) h) : geom_Class.C w h K := by
  refine geom_Class.of ?_
  unfold geom_Class.S joinP
  refine loop_of (fun s h' => h' = h ∧ 0 ≤ s.1 ∧ s.1 ≤ 6 ∧ ∀ c, 0 ≤ c → c < s.1 → ¬ (1 ≤ w ∧ w ≤ wds c)) (fun s _ => (6 - s.1).toNat) ⟨rfl, by simp, by simp, fun c h0 h1 => by simp at h1; omega⟩ ?_
  rintro ⟨i, _⟩ h' ⟨rfl, h0, h6, hall⟩
  simp only at h0 h6 hall ⊢
  refine split_of (fun h1 => split_of (fun h2 => ?_) fun h2 => ?_) fun h1 => ?_
  · have h1 : i < 6 := by simpa using h1
    have h2 : 1 ≤ w := by simpa using h2
    refine geom_Words_C (split_of (fun h3 => ?_) fun h3 => ?_)
    · have h3 : w ≤ wds i := by simpa using h3
      have : i = cls w := by
        unfold cls
        have a0 := hall 0; have a1 := hall 1; have a2 := hall 2; have a3 := hall 3; have a4 := hall 4; have a5 := hall 5
        unfold wds at *
        simp at a0 a1 a2 a3 a4 a5
        omega
      rw [this]
      exact hk
    · have h3 : ¬ w ≤ wds i := by simpa using h3
      refine ⟨⟨rfl, ?_, ?_, ?_⟩, ?_⟩
      · rw [wrap64_id (by omega) (by omega)]; omega
      · rw [wrap64_id (by omega) (by omega)]; omega
      · rw [wrap64_id (by omega) (by omega)]
        intro c h4 h5
        by_cases h6 : c = i
        · subst h6; exact fun h => h3 h.2
        · exact hall c h4 (by omega)
      · rw [wrap64_id (by omega) (by omega)]; omega
  · have h1 : i < 6 := by simpa using h1
    have h2 : ¬ 1 ≤ w := by simpa using h2
    refine ⟨⟨by first | rfl | trivial, ?_, ?_, ?_⟩, ?_⟩
    · rw [wrap64_id (by omega) (by omega)]; omega
    · rw [wrap64_id (by omega) (by omega)]; omega
    · exact fun c _ _ h => h2 h.1
    · rw [wrap64_id (by omega) (by omega)]; omega
  · have h1 : ¬ i < 6 := by simpa using h1
    have : cls w = -1 := by
      unfold cls
      have a0 := hall 0; have a1 := hall 1; have a2 := hall 2; have a3 := hall 3; have a4 := hall 4; have a5 := hall 5
      unfold wds at *
      simp at a0 a1 a2 a3 a4 a5
      omega
    rw [this] at hk
    exact hk

/-! ### Bits -/

theorem bits_within_C {a n : Int} {h : H} {K : Bool → H → Prop} (hb : -1000 ≤ n ∧ n ≤ 1000) (hk : K (decide (0 ≤ a ∧ 0 ≤ n ∧ n ≤ 64 ∧ a ≤ 64 - n)) h) : bits_within.C a n h K := by
  refine bits_within.of ?_
  unfold bits_within.S
  refine split_of (fun h1 => split_of (fun h2 => split_of (fun h3 => ?_) fun h3 => ?_) fun h2 => ?_) fun h1 => ?_
  · have h1 : 0 ≤ a := by simpa using h1
    have h2 : 0 ≤ n := by simpa using h2
    have h3 : n ≤ 64 := by simpa using h3
    rw [wrap64_id (by omega) (by omega)]
    have : decide (a ≤ 64 - n) = decide (0 ≤ a ∧ 0 ≤ n ∧ n ≤ 64 ∧ a ≤ 64 - n) := by
      apply decide_eq_decide.2; omega
    rw [this]; exact hk
  · have h3 : ¬ n ≤ 64 := by simpa using h3
    rwa [decide_eq_false (by omega)] at hk
  · have h2 : ¬ 0 ≤ n := by simpa using h2
    rwa [decide_eq_false (by omega)] at hk
  · have h1 : ¬ 0 ≤ a := by simpa using h1
    rwa [decide_eq_false (by omega)] at hk

theorem bits_mask_C {n : Nat} {h : H} {K : Int → H → Prop} (hn : n ≤ 63) (hk : K ((2 ^ n - 1 : Nat) : Int) h) : bits_mask.C n h K := by
  refine bits_mask.of ?_
  unfold bits_mask.S
  rw [wrapu64_id (by omega) (by omega), shl_one (by omega)]
  have h2 : (2 : Nat) ^ n < 2 ^ 64 := Nat.pow_lt_pow_right (by omega) (by omega)
  have h3 : 0 < (2 : Nat) ^ n := Nat.pow_pos (by omega)
  refine need_of (by omega) ?_
  generalize (2 : Nat) ^ n = m at *
  rw [wrapu64_id (by omega) (by omega), show ((m : Int) - 1) = ((m - 1 : Nat) : Int) from by omega]
  exact hk

/-- Bits set above a low part. -/
theorem bits_With_C {w at_ n v : Nat} {h : H} {K : Int → H → Prop} (hw : w < 2 ^ at_) (hn : n ≤ 63) (hat : at_ + n ≤ 64) (ha : at_ ≤ 63) (hv : v < 2 ^ 64) (hk : K ((w + v % 2 ^ n * 2 ^ at_ : Nat) : Int) h) : bits_With.C w at_ n v h K := by
  refine bits_With.of ?_
  unfold bits_With.S
  refine bits_within_C (by omega) ?_
  rw [decide_eq_true (by omega)]
  have pn : (2 : Nat) ^ n ≤ 2 ^ (64 - at_) := Nat.pow_le_pow_right (by omega) (by omega)
  have pe : (2 : Nat) ^ (64 - at_) * 2 ^ at_ = 2 ^ 64 := by rw [← Nat.pow_add]; congr 1; omega
  have p0 : 0 < (2 : Nat) ^ at_ := Nat.pow_pos (by omega)
  have p1 : 0 < (2 : Nat) ^ n := Nat.pow_pos (by omega)
  have p2 : (2 : Nat) ^ n < 2 ^ 64 := Nat.pow_lt_pow_right (by omega) (by omega)
  have hm : (2 ^ n - 1) * 2 ^ at_ < 2 ^ 64 := by
    rw [← pe]; exact Nat.mul_lt_mul_of_pos_right (by omega) p0
  have hm2 : v % 2 ^ n * 2 ^ at_ < 2 ^ 64 := by
    have := Nat.mod_lt v p1
    rw [← pe]; exact Nat.mul_lt_mul_of_pos_right (by omega) p0
  have hw64 : w < 2 ^ 64 := Nat.lt_of_lt_of_le hw (Nat.pow_le_pow_right (by omega) (by omega))
  refine split_neg rfl (bits_mask_C hn ?_)
  rw [wrapu64_id (by omega) (by omega)]
  refine need_of (by omega) (bits_mask_C hn (need_of (by omega) ?_))
  rw [shl_nat (by omega) hm, bitsI_andNot hw64 hm, and_high hw, Nat.xor_zero, bitsI_and hv (by omega), and_mask, shl_nat (by omega) hm2, bitsI_or hw64 hm2, or_high hw]
  exact hk

theorem bits_Field_C {w at_ n : Nat} {h : H} {K : Int → H → Prop} (hw : w < 2 ^ 64) (hn : n ≤ 63) (hat : at_ + n ≤ 64) (ha : at_ ≤ 63) (hk : K ((w / 2 ^ at_ % 2 ^ n : Nat) : Int) h) : bits_Field.C w at_ n h K := by
  refine bits_Field.of ?_
  unfold bits_Field.S
  refine bits_within_C (by omega) ?_
  rw [decide_eq_true (by omega)]
  refine split_neg rfl ?_
  rw [wrapu64_id (by omega) (by omega)]
  refine need_of (by omega) (bits_mask_C hn ?_)
  have h1 : w >>> at_ < 2 ^ 64 := by
    rw [Nat.shiftRight_eq_div_pow]
    exact Nat.lt_of_le_of_lt (Nat.div_le_self _ _) hw
  have p : (2 : Nat) ^ n < 2 ^ 64 := Nat.pow_lt_pow_right (by omega) (by omega)
  rw [shr_nat (by omega), bitsI_and h1 (by omega), and_mask, Nat.shiftRight_eq_div_pow]
  exact hk

theorem geom_Full_C {c : Int} {h : H} {K : Int → H → Prop} (hk : K ((2 ^ (plc c).toNat - 1 : Nat) : Int) h) : geom_Full.C c h K := by
  refine geom_Full.of ?_
  unfold geom_Full.S
  refine geom_Places_C ?_
  have hb := plc_bd c
  have e : plc c = (((plc c).toNat : Nat) : Int) := by omega
  have pn : (2 : Nat) ^ (plc c).toNat ≤ 2 ^ 32 := Nat.pow_le_pow_right (by omega) (by omega)
  have p0 : 0 < (2 : Nat) ^ (plc c).toNat := Nat.pow_pos (by omega)
  rw [e]
  generalize (plc c).toNat = n at *
  have := bits_With_C (w := 0) (at_ := 0) (n := n) (v := 18446744073709551615) (h := h) (K := fun n6 h5 => K n6 h5) (by omega) (by omega) (by omega) (by omega) (by omega) (by
    have e2 : 0 + 18446744073709551615 % 2 ^ n * 2 ^ 0 = 2 ^ n - 1 := by
      have hd : (2 : Nat) ^ 64 = 2 ^ (64 - n) * 2 ^ n := by rw [← Nat.pow_add]; congr 1; omega
      have p2 : 0 < (2 : Nat) ^ (64 - n) := Nat.pow_pos (by omega)
      have : (18446744073709551615 : Nat) = (2 ^ n - 1) + 2 ^ n * (2 ^ (64 - n) - 1) := by
        have h3 : 2 ^ n * (2 ^ (64 - n) - 1) = 2 ^ (64 - n) * 2 ^ n - 2 ^ n := by rw [Nat.mul_sub, Nat.mul_one, Nat.mul_comm]
        rw [h3, ← hd]; omega
      rw [this, Nat.add_mul_mod_self_left, Nat.mod_eq_of_lt (by omega)]
      omega
    rw [e2]; exact hk)
  exact this

end Go.Proofs.YtkfdbgpegekcfaaGreatDoorP

namespace Go.Proofs.YtkfdbgpegekcfaaGreatDoorP
open Go Go.GL Go.GLM Go.Proofs

theorem wrap_neg {x : Nat} (hx : x < 2 ^ 64) (h0 : x ≠ 0) : IntKind.wrap .u64 (0 - (x : Int)) = ((2 ^ 64 - x : Nat) : Int) := by
  simp only [IntKind.wrap, IntKind.bits, IntKind.signed]
  simp
  omega

theorem wrap_mul (m c : Nat) : IntKind.wrap .u64 ((m : Int) * (c : Int)) = ((m * c % 2 ^ 64 : Nat) : Int) := by
  simp only [IntKind.wrap, IntKind.bits, IntKind.signed]
  simp

theorem shr58 (a : Nat) : shrI .u64 (a : Int) 58 = ((a / 2 ^ 58 : Nat) : Int) := by
  have hsh := shr_nat (a := a) (n := 58) (by omega)
  rw [Nat.shiftRight_eq_div_pow] at hsh
  exact hsh

theorem least_bit {x : Nat} (hne : x ≠ 0) (hx : x < 2 ^ 64) : ∃ k, k < 64 ∧ x.testBit k = true ∧ ∀ j, j < k → x.testBit j = false := by
  obtain ⟨k, hk1⟩ := Nat.exists_testBit_of_ne_zero hne
  induction k using Nat.strongRecOn with
  | _ k ih =>
    by_cases h2 : ∃ j, j < k ∧ x.testBit j = true
    · obtain ⟨j, hj, hb⟩ := h2
      exact ih j hj hb
    · refine ⟨k, ?_, hk1, fun j hj => ?_⟩
      · rcases Nat.lt_or_ge k 64 with h | h
        · exact h
        · have := Nat.testBit_lt_two_pow (Nat.lt_of_lt_of_le hx (Nat.pow_le_pow_right (by omega) h))
          rw [this] at hk1; cases hk1
      · cases hb : x.testBit j with
        | false => rfl
        | true => exact absurd ⟨j, hj, hb⟩ h2

/-- The product with de Bruijn's number, its six highest bits. -/
def deI (k : Nat) : Nat := 2 ^ k * 285870213051353865 % 2 ^ 64 / 2 ^ 58

theorem deI_at {k : Nat} (hk : k < 64) : deB[deI k]? = some k := deB_at ⟨k, hk⟩
theorem deI_lt {k : Nat} (hk : k < 64) : deI k < 64 := (List.getElem?_eq_some_iff.1 (deI_at hk)).1

theorem deI_prog (k : Nat) : shrI .u64 (IntKind.wrap .u64 (((2 ^ k : Nat) : Int) * 285870213051353865)) 58 = ((deI k : Nat) : Int) := by
  have h1 := wrap_mul (2 ^ k) 285870213051353865
  rw [show ((285870213051353865 : Nat) : Int) = 285870213051353865 from rfl] at h1
  rw [h1, shr58]
  rfl

theorem TrailingZeros64_C {x : Nat} {h : H} {K : Int → H → Prop} (ht : Tab h) (hx : x < 2 ^ 64) (h0 : x = 0 → K 64 h) (hk : ∀ k, k < 64 → x.testBit k = true → (∀ j, j < k → x.testBit j = false) → K (k : Int) h) : math_bits_TrailingZeros64.C x h K := by
  refine math_bits_TrailingZeros64.of ?_
  unfold math_bits_TrailingZeros64.S
  refine split_of (fun h1 => ?_) fun h1 => ?_
  · have : (x : Int) = 0 := by simpa using h1
    exact h0 (by omega)
  · have hne : x ≠ 0 := by
      have : ¬ (x : Int) = 0 := by simpa using h1
      omega
    obtain ⟨k, hk64, hkb, hkl⟩ := least_bit hne hx
    rw [wrap_neg hx hne, bitsI_and hx (by omega), and_neg hx hkb hkl, deI_prog]
    have hcell := ht.2 _ _ (deI_at hk64)
    have hlt := deI_lt hk64
    generalize deI k = i at *
    refine need_of (by decide) ⟨by omega, by omega, ?_⟩
    have e : 0 + (i : Int).toNat * 1 = i := by omega
    rw [add_mk, e]
    refine ldI_of (n := (k : Int)) hcell ?_
    rw [wrap64_id (by omega) (by omega)]
    exact hk k hk64 hkb hkl

theorem bits_First_C {w : Nat} {h : H} {K : Int → H → Prop} (ht : Tab h) (hw : w < 2 ^ 64) (hk : ∀ k, k ≤ 64 → IsFirst w k → K (k : Int) h) : bits_First.C w h K := by
  refine bits_First.of ?_
  unfold bits_First.S
  have e : bitsI .xor .u64 18446744073709551615 (w : Int) = ((2 ^ 64 - (w + 1) : Nat) : Int) := by
    have h1 := bitsI_xor (a := 18446744073709551615) (b := w) (by omega) hw
    rw [show ((18446744073709551615 : Nat) : Int) = 18446744073709551615 from rfl] at h1
    rw [h1]
    congr 1
    apply Nat.eq_of_testBit_eq
    intro i
    rw [Nat.testBit_xor, Nat.testBit_two_pow_sub_succ hw, show (18446744073709551615 : Nat) = 2 ^ 64 - 1 from rfl, Nat.testBit_two_pow_sub_one]
    by_cases hi : i < 64
    · simp [hi]
    · have := Nat.testBit_lt_two_pow (Nat.lt_of_lt_of_le hw (Nat.pow_le_pow_right (by omega) (Nat.le_of_not_lt hi)))
      simp [hi, this]
  rw [e]
  have hbit : ∀ i, i < 64 → (2 ^ 64 - (w + 1)).testBit i = !w.testBit i := by
    intro i hi
    rw [Nat.testBit_two_pow_sub_succ hw]
    simp [hi]
  refine TrailingZeros64_C ht (by omega) (fun h0 => ?_) fun k hk64 h1 h2 => ?_
  · have hw1 : w = 2 ^ 64 - 1 := by omega
    refine hk 64 (by omega) ⟨Nat.testBit_lt_two_pow hw, fun j hj => ?_⟩
    rw [hw1, Nat.testBit_two_pow_sub_one]
    simpa using hj
  · refine hk k (by omega) ⟨?_, fun j hj => ?_⟩
    · have := hbit k hk64
      rw [h1] at this
      simpa using this.symm
    · have := hbit j (by omega)
      rw [h2 j hj] at this
      simpa using this.symm

/-! ### Heads -/

def mayHd (w k s : Int) : Bool := decide (1 ≤ w ∧ w ≤ 64 ∧ 0 ≤ k ∧ k ≤ 3 ∧ 0 ≤ s ∧ s < 65536)

theorem head_may_C {w k s : Int} {h : H} {K : Bool → H → Prop} (hk : ∀ h', Fr noB h h' → K (mayHd w k s) h') : head_may.C w k s h K := by
  refine head_may.of ?_
  unfold head_may.S
  refine newC_of ?_
  have hk' := hk _ (Fr.push h (.cells ⟨[.int .i64 w, .int .i64 k, .int .i64 s]⟩ 95))
  unfold mayHd at hk'
  refine ldI_of (n := w) (by simp) (split_of (fun h1 => ?_) fun h1 => ?_)
  · refine ldI_of (n := w) (by simp) (split_of (fun h2 => ?_) fun h2 => ?_)
    · refine ldI_of (n := k) (by simp) (split_of (fun h3 => ?_) fun h3 => ?_)
      · refine ldI_of (n := k) (by simp) (split_of (fun h4 => ?_) fun h4 => ?_)
        · refine ldI_of (n := s) (by simp) (split_of (fun h5 => ?_) fun h5 => ?_)
          · refine ldI_of (n := s) (by simp) ?_
            simp at h1 h2 h3 h4 h5
            have : decide (s < 65536) = decide (1 ≤ w ∧ w ≤ 64 ∧ 0 ≤ k ∧ k ≤ 3 ∧ 0 ≤ s ∧ s < 65536) := by
              apply decide_eq_decide.2; omega
            rw [this]; exact hk'
          · simp at h5; rwa [decide_eq_false (by omega)] at hk'
        · simp at h4; rwa [decide_eq_false (by omega)] at hk'
      · simp at h3; rwa [decide_eq_false (by omega)] at hk'
    · simp at h2; rwa [decide_eq_false (by omega)] at hk'
  · simp at h1; rwa [decide_eq_false (by omega)] at hk'

theorem not_noB (x : Nat) : ¬ noB x := fun h => h

theorem head_Pack_C {w k s : Int} {h : H} {K : Int → Int → H → Prop} (hno : mayHd w k s = false → ∀ h', Fr noB h h' → K 0 1 h') (hyes : mayHd w k s = true → ∀ h', Fr noB h h' → K (w + 128 * k + 1024 * s) 0 h') : head_Pack.C w k s h K := by
  refine head_Pack.of ?_
  unfold head_Pack.S
  refine newC_of ?_
  have hb := Blk.new h 95 [.int .i64 w, .int .i64 k, .int .i64 s]
  have hf := Fr.push h (.cells ⟨[.int .i64 w, .int .i64 k, .int .i64 s]⟩ 95)
  generalize h.push (.cells ⟨[.int .i64 w, .int .i64 k, .int .i64 s]⟩ 95) = h1 at *
  simp only [add_mk]
  refine ldI_of (n := w) (by rw [hb.cell]; rfl) (ldI_of (n := k) (by rw [hb.cell]; rfl) (ldI_of (n := s) (by rw [hb.cell]; rfl) ?_))
  refine head_may_C fun h2 hf2 => ?_
  have hb2 := hf2.blk hb (not_noB _)
  have hf3 := hf.trans hf2
  cases hm : mayHd w k s with
  | false => exact split_pos rfl (hno hm _ hf3)
  | true =>
    have hr := hm
    unfold mayHd at hr
    simp only [decide_eq_true_eq] at hr
    obtain ⟨a, rfl⟩ : ∃ a : Nat, w = a := ⟨w.toNat, by omega⟩
    obtain ⟨b, rfl⟩ : ∃ b : Nat, k = b := ⟨k.toNat, by omega⟩
    obtain ⟨c, rfl⟩ : ∃ c : Nat, s = c := ⟨s.toNat, by omega⟩
    refine split_neg rfl (ldI_of (n := (a : Int)) (by rw [hb2.cell]; rfl) (ldI_of (n := (b : Int)) (by rw [hb2.cell]; rfl) ?_))
    rw [wrapu64_id (by omega) (by omega), wrapu64_id (by omega) (by omega)]
    refine bits_With_C (w := a) (at_ := 7) (n := 3) (v := b) (by omega) (by omega) (by omega) (by omega) (by omega) ?_
    refine ldI_of (n := (c : Int)) (by rw [hb2.cell]; rfl) ?_
    rw [wrapu64_id (by omega) (by omega)]
    refine bits_With_C (w := a + b % 2 ^ 3 * 2 ^ 7) (at_ := 10) (n := 16) (v := c) (by omega) (by omega) (by omega) (by omega) (by omega) ?_
    rw [wrap64_id (by omega) (by omega)]
    have := hyes hm h2 hf3
    rw [show ((a + b % 2 ^ 3 * 2 ^ 7 + c % 2 ^ 16 * 2 ^ 10 : Nat) : Int) = (a : Int) + 128 * b + 1024 * c from by omega]
    exact this

/-- What a word tells: words, kind, shape. -/
def hdW (x : Int) : Int := (x % 18446744073709551616) % 128
def hdK (x : Int) : Int := (x % 18446744073709551616) / 128 % 8
def hdS (x : Int) : Int := (x % 18446744073709551616) / 1024 % 65536
def hdOk (x : Int) : Bool := decide ((x % 18446744073709551616) < 67108864) && mayHd (hdW x) (hdK x) (hdS x)

theorem wrapu64_nat (x : Int) : IntKind.wrap .u64 x = (((x % 18446744073709551616).toNat : Nat) : Int) := by
  simp only [IntKind.wrap, IntKind.bits, IntKind.signed]
  simp
  omega

theorem head_Unpack_C {x : Int} {h : H} {K : Int → Int → Int → Int → H → Prop} (hno : hdOk x = false → ∀ h', Fr noB h h' → K 0 0 0 3 h') (hyes : hdOk x = true → ∀ h', Fr noB h h' → K (hdW x) (hdK x) (hdS x) 0 h') : head_Unpack.C x h K := by
  refine head_Unpack.of ?_
  unfold head_Unpack.S joinP
  refine newC_of ?_
  have hb1 := Blk.new h 95 [.int .i64 0, .int .i64 0, .int .i64 0]
  have hf1 := Fr.push h (.cells ⟨[.int .i64 0, .int .i64 0, .int .i64 0]⟩ 95)
  have hlt1 := hb1.lt
  generalize hh1 : h.push (.cells ⟨[.int .i64 0, .int .i64 0, .int .i64 0]⟩ 95) = h1 at *
  rw [wrapu64_nat]
  have hu : (x % 18446744073709551616).toNat < 2 ^ 64 := by omega
  have eW : hdW x = (((x % 18446744073709551616).toNat % 128 : Nat) : Int) := by unfold hdW; omega
  have eK : hdK x = (((x % 18446744073709551616).toNat / 128 % 8 : Nat) : Int) := by unfold hdK; omega
  have eS : hdS x = (((x % 18446744073709551616).toNat / 1024 % 65536 : Nat) : Int) := by unfold hdS; omega
  have eO : hdOk x = (decide ((x % 18446744073709551616).toNat / 67108864 = 0) && mayHd (hdW x) (hdK x) (hdS x)) := by
    unfold hdOk
    congr 1
    apply decide_eq_decide.2
    omega
  rw [eW, eK, eS] at hyes eO
  generalize (x % 18446744073709551616).toNat = u at *
  refine bits_Field_C (w := u) (at_ := 0) (n := 7) hu (by omega) (by omega) (by omega) ?_
  refine bits_Field_C (w := u) (at_ := 7) (n := 3) hu (by omega) (by omega) (by omega) ?_
  refine bits_Field_C (w := u) (at_ := 10) (n := 16) hu (by omega) (by omega) (by omega) ?_
  simp only [add_mk]
  have e1 : u / 2 ^ 0 % 2 ^ 7 = u % 128 := by omega
  have e2 : u / 2 ^ 7 % 2 ^ 3 = u / 128 % 8 := by omega
  have e3 : u / 2 ^ 10 % 2 ^ 16 = u / 1024 % 65536 := by omega
  rw [e1, e2, e3, wrap64_id (by omega) (by omega), wrap64_id (by omega) (by omega), wrap64_id (by omega) (by omega)]
  refine newC_of ?_
  have hb2 := Blk.new h1 95 [.int .i64 0, .int .i64 0, .int .i64 0]
  have hb1' := hb1.push (.cells ⟨[.int .i64 0, .int .i64 0, .int .i64 0]⟩ 95)
  have hf2 := hf1.trans (Fr.push h1 (.cells ⟨[.int .i64 0, .int .i64 0, .int .i64 0]⟩ 95))
  have hne : h.size ≠ h1.size := by omega
  generalize h1.push (.cells ⟨[.int .i64 0, .int .i64 0, .int .i64 0]⟩ 95) = h2 at *
  simp only [add_mk, Nat.zero_add]
  -- a store into what the call made
  have old : ∀ {g : H} (b o : Nat) (v : Value), h.size ≤ b → Fr noB h g → Fr noB h (setC g ⟨b, o, none⟩ v) := fun b o v hb hf =>
    hf.since (Fr.set _ _ v) fun y hy => .inr (by rw [hy]; exact hb)
  refine stC_of hb2 (by simp) ?_
  have hb3 := hb2.set 0 (.int .i64 ((u % 128 : Nat) : Int))
  have hc3 := hb1'.keep (a := ⟨h1.size, 0, none⟩) (v := .int .i64 ((u % 128 : Nat) : Int)) hne
  have hf3 := old h1.size 0 (.int .i64 ((u % 128 : Nat) : Int)) (by omega) hf2
  generalize setC h2 ⟨h1.size, 0, none⟩ _ = h3 at *
  refine stC_of hb3 (by simp) ?_
  have hb4 := hb3.set 1 (.int .i64 ((u / 128 % 8 : Nat) : Int))
  have hc4 := hc3.keep (a := ⟨h1.size, 1, none⟩) (v := .int .i64 ((u / 128 % 8 : Nat) : Int)) hne
  have hf4 := old h1.size 1 (.int .i64 ((u / 128 % 8 : Nat) : Int)) (by omega) hf3
  generalize setC h3 ⟨h1.size, 1, none⟩ _ = h4 at *
  refine stC_of hb4 (by simp) ?_
  have hb5 := hb4.set 2 (.int .i64 ((u / 1024 % 65536 : Nat) : Int))
  have hc5 := hc4.keep (a := ⟨h1.size, 2, none⟩) (v := .int .i64 ((u / 1024 % 65536 : Nat) : Int)) hne
  have hf5 := old h1.size 2 (.int .i64 ((u / 1024 % 65536 : Nat) : Int)) (by omega) hf4
  generalize setC h4 ⟨h1.size, 2, none⟩ _ = h5 at *
  simp only [List.set_cons_zero, List.set_cons_succ] at hb5
  -- both failures end alike
  have fail : ∀ g : H, Blk g h.size 95 [.int .i64 0, .int .i64 0, .int .i64 0] → Fr noB h g → hdOk x = false →
      stC g ⟨h.size, 0, none⟩ (.int .i64 0) fun h30 => stC h30 ⟨h.size, 1, none⟩ (.int .i64 0) fun h31 => stC h31 ⟨h.size, 2, none⟩ (.int .i64 0) fun h32 =>
        ldI h32 ⟨h.size, 0, none⟩ .i64 fun n => ldI h32 ⟨h.size, 1, none⟩ .i64 fun n' => ldI h32 ⟨h.size, 2, none⟩ .i64 fun n'' => K n n' n'' 3 h32 := by
    intro g hg hfg hbad
    refine stC_of hg (by simp) (stC_of (hg.set 0 _) (by simp) (stC_of ((hg.set 0 _).set 1 _) (by simp) ?_))
    have hg3 := ((hg.set 0 (.int .i64 0)).set 1 (.int .i64 0)).set 2 (.int .i64 0)
    refine ldI_of (n := 0) (by rw [hg3.cell]; rfl) (ldI_of (n := 0) (by rw [hg3.cell]; rfl) (ldI_of (n := 0) (by rw [hg3.cell]; rfl) ?_))
    exact hno hbad _ (old _ _ _ (Nat.le_refl _) (old _ _ _ (Nat.le_refl _) (old _ _ _ (Nat.le_refl _) hfg)))
  refine need_of (by decide) ?_
  have e26 : shrI .u64 (u : Int) 26 = ((u / 67108864 : Nat) : Int) := by
    have := shr_nat (a := u) (n := 26) (by omega)
    rw [Nat.shiftRight_eq_div_pow] at this
    exact this
  rw [e26]
  by_cases h26 : u / 67108864 = 0
  · rw [h26]
    refine split_neg rfl (ldI_of (n := ((u % 128 : Nat) : Int)) (by rw [hb5.cell]; rfl) (ldI_of (n := ((u / 128 % 8 : Nat) : Int)) (by rw [hb5.cell]; rfl) (ldI_of (n := ((u / 1024 % 65536 : Nat) : Int)) (by rw [hb5.cell]; rfl) (head_may_C fun h6 hf6 => ?_))))
    have hb6 := hf6.blk hb5 (not_noB _)
    have hc6 := hf6.blk hc5 (not_noB _)
    have hf7 := hf5.trans hf6
    cases hm : mayHd ((u % 128 : Nat) : Int) ((u / 128 % 8 : Nat) : Int) ((u / 1024 % 65536 : Nat) : Int) with
    | false =>
      rw [hm, Bool.and_false] at eO
      exact split_pos rfl (fail h6 hc6 hf7 eO)
    | true =>
      rw [hm, h26] at eO
      refine split_neg rfl (ldI_of (n := ((u % 128 : Nat) : Int)) (by rw [hb6.cell]; rfl) (ldI_of (n := ((u / 128 % 8 : Nat) : Int)) (by rw [hb6.cell]; rfl) (ldI_of (n := ((u / 1024 % 65536 : Nat) : Int)) (by rw [hb6.cell]; rfl) ?_)))
      refine stC_of hc6 (by simp) (stC_of (hc6.set 0 _) (by simp) (stC_of ((hc6.set 0 _).set 1 _) (by simp) ?_))
      have hg3 := ((hc6.set 0 (.int .i64 ((u % 128 : Nat) : Int))).set 1 (.int .i64 ((u / 128 % 8 : Nat) : Int))).set 2 (.int .i64 ((u / 1024 % 65536 : Nat) : Int))
      refine ldI_of (n := ((u % 128 : Nat) : Int)) (by rw [hg3.cell]; rfl) (ldI_of (n := ((u / 128 % 8 : Nat) : Int)) (by rw [hg3.cell]; rfl) (ldI_of (n := ((u / 1024 % 65536 : Nat) : Int)) (by rw [hg3.cell]; rfl) ?_))
      exact hyes (by rw [eO]; rfl) _ (old _ _ _ (Nat.le_refl _) (old _ _ _ (Nat.le_refl _) (old _ _ _ (Nat.le_refl _) hf7)))
  · rw [decide_eq_false h26, Bool.false_and] at eO
    exact split_pos (by simp; omega) (fail h5 hc5 hf5 eO)

end Go.Proofs.YtkfdbgpegekcfaaGreatDoorP

namespace Go.Proofs.YtkfdbgpegekcfaaGreatDoorP
open Go Go.GL Go.GLM Go.Proofs

def goodSh (k f : Int) (m : Nat) : Bool :=
  if k = 0 ∨ k = 2 then decide (0 ≤ f ∧ f ≤ 63 ∧ m >>> f.toNat = 0) else if k = 1 ∨ k = 3 then decide (f = 0 ∧ m ≤ 1) else false

def holdSh (k : Int) (m : Nat) (f w : Int) : Bool :=
  if f < 0 ∨ w < 2 ∨ w - 2 < f then false
  else if k = 0 ∨ k = 2 then m.testBit f.toNat else if k = 1 then m.testBit 0 else if k = 3 then m.testBit 0 && decide (4 ≤ f) else false

theorem bit_and {m n : Nat} (hm : m < 2 ^ 64) (hn : n < 64) : (bitsI .and .u64 (shrI .u64 (m : Int) (n : Int)) 1 == 1) = m.testBit n := by
  have h1 : m >>> n < 2 ^ 64 := by
    rw [Nat.shiftRight_eq_div_pow]
    exact Nat.lt_of_le_of_lt (Nat.div_le_self _ _) hm
  have h2 := bitsI_and (a := m >>> n) (b := 1) h1 (by omega)
  rw [show ((1 : Nat) : Int) = 1 from rfl] at h2
  rw [shr_nat hn, h2]
  rw [show Nat.testBit m n = (m >>> n &&& 1 != 0) from by rw [Nat.testBit, Nat.and_comm]]
  have h3 : m >>> n &&& 1 = m >>> n % 2 := Nat.and_one_is_mod _
  rw [h3]
  have : m >>> n % 2 = 0 ∨ m >>> n % 2 = 1 := by omega
  rcases this with h | h <;> simp [h]

theorem bit_and0 {m : Nat} (hm : m < 2 ^ 64) : (bitsI .and .u64 (m : Int) 1 == 1) = m.testBit 0 := by
  have h := bit_and (m := m) (n := 0) hm (by omega)
  rw [shr_nat (by omega)] at h
  simpa using h

theorem head_Good_C {k f : Int} {m : Nat} {h : H} {K : Bool → H → Prop} (hm : m < 2 ^ 64) (hk : ∀ h', Fr noB h h' → K (goodSh k f m) h') : head_Good.C k f m h K := by
  refine head_Good.of ?_
  unfold head_Good.S joinP
  refine newC_of ?_
  have hb := Blk.new h 86 [.int .i64 k, .int .i64 f, .int .u64 m]
  have hk := hk _ (Fr.push h (.cells ⟨[.int .i64 k, .int .i64 f, .int .u64 m]⟩ 86))
  generalize h.push (.cells ⟨[.int .i64 k, .int .i64 f, .int .u64 m]⟩ 86) = h1 at *
  simp only [add_mk]
  refine ldI_of (n := k) (by rw [hb.cell]; rfl) ?_
  have first : ∀ b : Bool, b = (decide (k = 0) || decide (k = 2)) → split b (ldI h1 ⟨h.size, 1, none⟩ .i64 fun n8 => split (decide (n8 ≥ 0)) (ldI h1 ⟨h.size, 1, none⟩ .i64 fun n9 => split (decide (n9 ≤ 63)) (ldI h1 ⟨h.size, 2, none⟩ .u64 fun n10 => ldI h1 ⟨h.size, 1, none⟩ .i64 fun n11 => need ((0 : Int) ≤ IntKind.wrap .u64 n11) (K (shrI .u64 n10 (IntKind.wrap .u64 n11) == 0) h1)) (K false h1)) (K false h1))
      (split (k == 1) (split (k == 1) (ldI h1 ⟨h.size, 1, none⟩ .i64 fun n14 => split (n14 == 0) (ldI h1 ⟨h.size, 2, none⟩ .u64 fun n15 => K (decide (n15 ≤ 1)) h1) (K false h1)) (K false h1))
        (split (k == 3) (ldI h1 ⟨h.size, 1, none⟩ .i64 fun n14 => split (n14 == 0) (ldI h1 ⟨h.size, 2, none⟩ .u64 fun n15 => K (decide (n15 ≤ 1)) h1) (K false h1)) (K false h1))) := by
    rintro b rfl
    unfold goodSh at hk
    refine split_of (fun hb1 => ?_) fun hb1 => ?_
    · simp at hb1
      rw [if_pos hb1] at hk
      refine ldI_of (n := f) (by rw [hb.cell]; rfl) (split_of (fun h2 => ldI_of (n := f) (by rw [hb.cell]; rfl) (split_of (fun h3 => ?_) fun h3 => ?_)) fun h2 => ?_)
      · simp at h2 h3
        refine ldI_of (n := (m : Int)) (by rw [hb.cell]; rfl) (ldI_of (n := f) (by rw [hb.cell]; rfl) ?_)
        rw [wrapu64_id (by omega) (by omega)]
        refine need_of h2 ?_
        obtain ⟨g, rfl⟩ : ∃ g : Nat, f = g := ⟨f.toNat, by omega⟩
        rw [shr_nat (by omega)]
        have : (((m >>> g : Nat) : Int) == 0) = decide (0 ≤ (g : Int) ∧ (g : Int) ≤ 63 ∧ m >>> (g : Int).toNat = 0) := by
          rw [Int.toNat_natCast]
          generalize m >>> g = q
          rw [Bool.eq_iff_iff, beq_iff_eq, decide_eq_true_eq]
          omega
        rw [this]; exact hk
      · simp at h3; rwa [decide_eq_false (by omega)] at hk
      · simp at h2; rwa [decide_eq_false (by omega)] at hk
    · simp at hb1
      rw [if_neg (by omega)] at hk
      have small : (k = 1 ∨ k = 3) → ldI h1 ⟨h.size, 1, none⟩ .i64 fun n14 => split (n14 == 0) (ldI h1 ⟨h.size, 2, none⟩ .u64 fun n15 => K (decide (n15 ≤ 1)) h1) (K false h1) := by
        intro h13
        rw [if_pos h13] at hk
        refine ldI_of (n := f) (by rw [hb.cell]; rfl) (split_of (fun h2 => ldI_of (n := (m : Int)) (by rw [hb.cell]; rfl) ?_) fun h2 => ?_)
        · simp at h2
          have : decide ((m : Int) ≤ 1) = decide (f = 0 ∧ m ≤ 1) := by apply decide_eq_decide.2; omega
          rw [this]; exact hk
        · simp at h2; rwa [decide_eq_false (by omega)] at hk
      refine split_of (fun h1' => split_pos h1' (small (.inl (by simpa using h1')))) fun h1' => split_of (fun h3 => small (.inr (by simpa using h3))) fun h3 => ?_
      simp at h1' h3
      rw [if_neg (by omega)] at hk
      exact hk
  refine split_of (fun h0 => ?_) fun h0 => ?_
  · have := first (k == 0) (by simp at h0; simp [h0])
    rw [h0] at this ⊢
    exact this
  · have := first (k == 2) (by simp at h0; simp [h0, Bool.beq_eq_decide_eq])
    exact this

theorem head_Shape_Holds_C {k f0 f w : Int} {m : Nat} {h : H} {K : Bool → H → Prop} (hm : m < 2 ^ 64) (hw : -1000 ≤ w ∧ w ≤ 1000) (hk : ∀ h', Fr noB h h' → K (holdSh k m f w) h') : head_Shape_Holds.C k f0 m f w h K := by
  refine head_Shape_Holds.of ?_
  unfold head_Shape_Holds.S joinP
  refine newC_of ?_
  have hb := Blk.new h 86 [.int .i64 k, .int .i64 f0, .int .u64 m]
  have hk := hk _ (Fr.push h (.cells ⟨[.int .i64 k, .int .i64 f0, .int .u64 m]⟩ 86))
  generalize h.push (.cells ⟨[.int .i64 k, .int .i64 f0, .int .u64 m]⟩ 86) = g1 at *
  simp only [add_mk]
  rw [wrap64_id (by omega) (by omega)]
  unfold holdSh at hk
  refine split_of (fun h1 => ?_) fun h1 => split_of (fun h2 => ?_) fun h2 => split_of (fun h3 => ?_) fun h3 => ?_
  · simp at h1; rwa [if_pos (by omega)] at hk
  · simp at h2; rwa [if_pos (by omega)] at hk
  · simp at h3; rwa [if_pos (by omega)] at hk
  · simp at h1 h2 h3
    rw [if_neg (by omega)] at hk
    refine ldI_of (n := k) (by rw [hb.cell]; rfl) ?_
    obtain ⟨g, rfl⟩ : ∃ g : Nat, f = g := ⟨f.toNat, by omega⟩
    have first : ∀ b : Bool, b = (decide (k = 0) || decide (k = 2)) → split b (ldI g1 ⟨h.size, 2, none⟩ .u64 fun n9 => need ((0 : Int) ≤ IntKind.wrap .u64 (g : Int)) (K (bitsI .and .u64 (shrI .u64 n9 (IntKind.wrap .u64 (g : Int))) 1 == 1) g1))
        (split (k == 1) (ldI g1 ⟨h.size, 2, none⟩ .u64 fun n10 => K (bitsI .and .u64 n10 1 == 1) g1) (split (k == 3) (ldI g1 ⟨h.size, 2, none⟩ .u64 fun n11 => split (bitsI .and .u64 n11 1 == 1) (K (decide ((g : Int) ≥ 4)) g1) (K false g1)) (K false g1))) := by
      rintro b rfl
      refine split_of (fun hb1 => ?_) fun hb1 => split_of (fun h4 => ?_) fun h4 => split_of (fun h5 => ?_) fun h5 => ?_
      · simp at hb1
        rw [if_pos hb1, Int.toNat_natCast] at hk
        refine ldI_of (n := (m : Int)) (by rw [hb.cell]; rfl) ?_
        rw [wrapu64_id (by omega) (by omega)]
        refine need_of (by omega) ?_
        by_cases h64 : g < 64
        · rw [bit_and hm h64]; exact hk
        · -- a shift by 64 and more
          have e1 : shrI .u64 (m : Int) (g : Int) = 0 := by
            unfold shrI
            have e : min (g : Int).toNat (IntKind.bits .u64) = 64 := by simp [IntKind.bits]; omega
            rw [e, Int.fdiv_eq_ediv_of_nonneg _ (by decide)]
            exact Int.ediv_eq_zero_of_lt (by omega) (by omega)
          have e2 : m.testBit g = false := Nat.testBit_lt_two_pow (Nat.lt_of_lt_of_le hm (Nat.pow_le_pow_right (by omega) (by omega)))
          rw [e1, show (bitsI .and .u64 0 1 == 1) = false from by decide]
          rwa [e2] at hk
      · simp at hb1 h4
        rw [if_neg (by omega), if_pos h4] at hk
        refine ldI_of (n := (m : Int)) (by rw [hb.cell]; rfl) ?_
        rw [bit_and0 hm]; exact hk
      · simp at hb1 h4 h5
        rw [if_neg (by omega), if_neg (by omega), if_pos h5] at hk
        refine ldI_of (n := (m : Int)) (by rw [hb.cell]; rfl) ?_
        rw [bit_and0 hm]
        refine split_of (fun h6 => ?_) fun h6 => ?_
        · rw [h6, Bool.true_and] at hk; exact hk
        · rw [h6, Bool.false_and] at hk; exact hk
      · simp at hb1 h4 h5
        rw [if_neg (by omega), if_neg (by omega), if_neg (by omega)] at hk
        exact hk
    refine split_of (fun h0 => first _ ?_) fun h0 => first _ ?_
    · simp at h0; simp [h0]
    · simp at h0; simp [h0, Bool.beq_eq_decide_eq]

/-! ### The reference's geometry -/

theorem ref1_Words_C {x : Int} {h : H} {K : Int → H → Prop} (hk : ∀ h', Fr noB h h' → K (wds x) h') : gantlineref1_Words.C x h K := by
  refine gantlineref1_Words.of ?_
  unfold gantlineref1_Words.S joinP
  refine split_of (fun h1 => ?_) fun h1 => split_of (fun h2 => ?_) fun h2 => ?_
  · simp at h1
    have := hk h (Fr.refl _ _)
    rwa [wds_bad (by omega)] at this
  · simp at h2
    have := hk h (Fr.refl _ _)
    rwa [wds_bad (by omega)] at this
  · simp at h1 h2
    refine newC_of ?_
    have hb := Blk.new h 3 [.int .i64 2, .int .i64 4, .int .i64 8, .int .i64 16, .int .i64 32, .int .i64 64]
    have hk := hk _ (Fr.push h (.cells ⟨[.int .i64 2, .int .i64 4, .int .i64 8, .int .i64 16, .int .i64 32, .int .i64 64]⟩ 3))
    generalize h.push (.cells ⟨[.int .i64 2, .int .i64 4, .int .i64 8, .int .i64 16, .int .i64 32, .int .i64 64]⟩ 3) = g at *
    refine idx_of (by omega) (by omega) ?_
    refine ldI_of (n := wds x) ?_ hk
    rw [hb.cell]
    rcases cls_cases x with rfl | rfl | rfl | rfl | rfl | rfl | h5
    · rfl
    · rfl
    · rfl
    · rfl
    · rfl
    · rfl
    · omega

theorem ref1_Places_C {x : Int} {h : H} {K : Int → H → Prop} (hk : ∀ h', Fr noB h h' → K (plc x) h') : gantlineref1_Places.C x h K := by
  refine gantlineref1_Places.of ?_
  unfold gantlineref1_Places.S joinP
  refine split_of (fun h1 => ?_) fun h1 => split_of (fun h2 => ?_) fun h2 => ?_
  · simp at h1
    have := hk h (Fr.refl _ _)
    rwa [plc_bad (by omega)] at this
  · simp at h2
    have := hk h (Fr.refl _ _)
    rwa [plc_bad (by omega)] at this
  · simp at h1 h2
    refine ref1_Words_C fun h' hf => ?_
    have := hk h' hf
    rcases cls_cases x with rfl | rfl | rfl | rfl | rfl | rfl | h5
    · exact need_of (by decide) this
    · exact need_of (by decide) this
    · exact need_of (by decide) this
    · exact need_of (by decide) this
    · exact need_of (by decide) this
    · exact need_of (by decide) this
    · omega

theorem ref1_Span_C {x : Int} {h : H} {K : Int → H → Prop} (hk : K (spn x) h) : gantlineref1_Span.C x h K := by
  refine gantlineref1_Span.of ?_
  unfold gantlineref1_Span.S joinP
  unfold spn at hk
  refine split_of (fun h1 => ?_) fun h1 => split_of (fun h2 => ?_) fun h2 => ?_
  · simp at h1
    rwa [if_pos (by omega)] at hk
  · simp at h2
    rwa [if_pos (by omega)] at hk
  · simp at h1 h2
    rw [if_neg (by omega)] at hk
    refine need_of (by decide) ?_
    rw [Int.tdiv_eq_ediv_of_nonneg (by omega), wrap64_id (by omega) (by omega)]
    exact hk

theorem ref1_Addr_C {s p c : Int} {h : H} {K : Int → H → Prop} (hk : ∀ h', Fr noB h h' → K (adr s p c) h') : gantlineref1_Addr.C s p c h K := by
  refine gantlineref1_Addr.of ?_
  unfold gantlineref1_Addr.S joinP
  unfold adr at hk
  have h0 := hk h (Fr.refl _ _)
  refine split_of (fun h1 => ?_) fun h1 => split_of (fun h2 => ?_) fun h2 => split_of (fun h3 => ?_) fun h3 => ref1_Places_C fun g hg => split_of (fun h4 => ?_) fun h4 => ref1_Words_C fun g' hg' => ?_
  · simp at h1; rwa [if_pos (by omega)] at h0
  · simp at h2; rwa [if_pos (by omega)] at h0
  · simp at h3; rwa [if_pos (by omega)] at h0
  · have := hk g hg
    simp at h4; rwa [if_pos (by omega)] at this
  · have := hk g' (hg.trans hg')
    simp at h1 h2 h3 h4
    rw [if_neg (by omega)] at this
    obtain ⟨m1, m2⟩ := mul_bd (by omega) h4
    have hb := wds_bd c
    rw [wrap64_id (x := 64 * s) (by omega) (by omega), wrap64_id (x := p * wds c) (by omega) (by omega), wrap64_id (by omega) (by omega), show 64 * s = s * 64 from by omega]
    exact this

theorem ref1_Class_C {w : Int} {h : H} {K : Int → H → Prop} (hk : ∀ h', Fr noB h h' → K (cls w) h') : gantlineref1_Class.C w h K := by
  refine gantlineref1_Class.of ?_
  unfold gantlineref1_Class.S joinP
  refine loop_of (fun s h' => Fr noB h h' ∧ 0 ≤ s.1 ∧ s.1 ≤ 6 ∧ ∀ c, 0 ≤ c → c < s.1 → ¬ (1 ≤ w ∧ w ≤ wds c)) (fun s _ => (6 - s.1).toNat) ⟨Fr.refl _ _, by simp, by simp, fun c h0 h1 => by simp at h1; omega⟩ ?_
  rintro ⟨i, _⟩ h' ⟨hf, h0, h6, hall⟩
  simp only at h0 h6 hall ⊢
  have none : (¬ i < 6 ∨ ¬ 1 ≤ w) → K (-1) h' := by
    intro hor
    have : cls w = -1 := by
      unfold cls
      have a0 := hall 0; have a1 := hall 1; have a2 := hall 2; have a3 := hall 3; have a4 := hall 4; have a5 := hall 5
      unfold wds at *
      simp at a0 a1 a2 a3 a4 a5
      omega
    have h1 := hk h' hf
    rw [this] at h1
    exact h1
  refine split_of (fun h1 => split_of (fun h2 => ?_) fun h2 => ?_) fun h1 => ?_
  · simp at h1 h2
    refine ref1_Words_C fun g hg => split_of (fun h3 => ?_) fun h3 => ?_
    · simp at h3
      have : i = cls w := by
        unfold cls
        have a0 := hall 0; have a1 := hall 1; have a2 := hall 2; have a3 := hall 3; have a4 := hall 4; have a5 := hall 5
        unfold wds at *
        simp at a0 a1 a2 a3 a4 a5
        omega
      rw [this]
      exact hk g (hf.trans hg)
    · simp at h3
      refine ⟨⟨hf.trans hg, ?_, ?_, ?_⟩, ?_⟩
      · rw [wrap64_id (by omega) (by omega)]; omega
      · rw [wrap64_id (by omega) (by omega)]; omega
      · rw [wrap64_id (by omega) (by omega)]
        intro c h4 h5
        by_cases h6 : c = i
        · subst h6; exact fun h => by omega
        · exact hall c h4 (by omega)
      · rw [wrap64_id (by omega) (by omega)]; omega
  · simp at h2; exact none (.inr (by omega))
  · simp at h1; exact none (.inl (by omega))

end Go.Proofs.YtkfdbgpegekcfaaGreatDoorP

namespace Go.Proofs.YtkfdbgpegekcfaaGreatDoorP
open Go Go.GL Go.GLM Go.Proofs

/-- The bit at a place, none outside of the word. -/
def bitAt (m : Nat) (i : Int) : Bool := decide (0 ≤ i) && m.testBit i.toNat

/-- How many of the first n bits stand. -/
def onesTo (m : Nat) : Nat → Nat
  | 0 => 0
  | n + 1 => onesTo m n + (m.testBit n).toNat

theorem onesTo_le (m n : Nat) : onesTo m n ≤ n := by
  induction n with
  | zero => simp [onesTo]
  | succ n ih => unfold onesTo; cases m.testBit n <;> simp <;> omega

theorem ref1_Bit_C {m : Nat} {i : Int} {h : H} {K : Bool → H → Prop} (hm : m < 2 ^ 64) (hk : K (bitAt m i) h) : gantlineref1_Bit.C m i h K := by
  refine gantlineref1_Bit.of ?_
  unfold gantlineref1_Bit.S
  unfold bitAt at hk
  refine split_of (fun h1 => split_of (fun h2 => ?_) fun h2 => ?_) fun h1 => ?_
  · simp at h1 h2
    obtain ⟨g, rfl⟩ : ∃ g : Nat, i = g := ⟨i.toNat, by omega⟩
    rw [wrapu64_id (by omega) (by omega)]
    refine need_of (by omega) ?_
    rw [bit_and hm (by omega)]
    rw [decide_eq_true (by omega), Bool.true_and, Int.toNat_natCast] at hk
    exact hk
  · simp at h1 h2
    have e2 : m.testBit i.toNat = false := Nat.testBit_lt_two_pow (Nat.lt_of_lt_of_le hm (Nat.pow_le_pow_right (by omega) (by omega)))
    rwa [e2, Bool.and_false] at hk
  · simp at h1
    rwa [decide_eq_false (by omega), Bool.false_and] at hk

theorem ref1_Ones_C {m : Nat} {h : H} {K : Int → H → Prop} (hm : m < 2 ^ 64) (hk : K (onesTo m 64) h) : gantlineref1_Ones.C m h K := by
  refine gantlineref1_Ones.of ?_
  unfold gantlineref1_Ones.S joinP
  refine loop_of (fun s h' => h' = h ∧ 0 ≤ s.1 ∧ s.1 ≤ 64 ∧ s.2.1 = (onesTo m s.1.toNat : Int)) (fun s _ => (64 - s.1).toNat) ⟨rfl, by simp, by simp, by simp [onesTo]⟩ ?_
  rintro ⟨i, n, _⟩ h' ⟨rfl, h0, h64, hn⟩
  simp only at h0 h64 hn ⊢
  refine split_of (fun h1 => ?_) fun h1 => ?_
  · simp at h1
    refine ref1_Bit_C hm ?_
    have hb := onesTo_le m i.toNat
    have e2 : (i + 1).toNat = i.toNat + 1 := by omega
    have e3 : bitAt m i = m.testBit i.toNat := by unfold bitAt; rw [decide_eq_true h0, Bool.true_and]
    have e4 : onesTo m (i.toNat + 1) = onesTo m i.toNat + (m.testBit i.toNat).toNat := rfl
    rw [wrap64_id (x := i + 1) (by omega) (by omega), e3]
    refine split_of (fun h2 => ?_) fun h2 => ?_
    · rw [h2] at e4
      refine ⟨⟨rfl, by omega, by omega, ?_⟩, by omega⟩
      rw [wrap64_id (by omega) (by omega), e2, e4, hn]
      simp
    · rw [h2] at e4
      refine ⟨⟨rfl, by omega, by omega, ?_⟩, by omega⟩
      rw [e2, e4, hn]
      simp
  · simp at h1
    have : i = 64 := by omega
    subst this
    subst hn
    exact hk

theorem ref1_Pack_C {w k s : Int} {h : H} {K : Int → Bool → H → Prop} (hno : mayHd w k s = false → K 0 false h) (hyes : mayHd w k s = true → K (w + 128 * k + 1024 * s) true h) : gantlineref1_Pack.C w k s h K := by
  refine gantlineref1_Pack.of ?_
  unfold gantlineref1_Pack.S joinP
  unfold mayHd at hno hyes
  simp only [decide_eq_true_eq, decide_eq_false_iff_not] at hno hyes
  refine split_of (fun h1 => ?_) fun h1 => split_of (fun h2 => ?_) fun h2 => split_of (fun h3 => ?_) fun h3 => split_of (fun h4 => ?_) fun h4 => split_of (fun h5 => ?_) fun h5 => split_of (fun h6 => ?_) fun h6 => ?_
  · simp at h1; exact hno (by omega)
  · simp at h2; exact hno (by omega)
  · simp at h3; exact hno (by omega)
  · simp at h4; exact hno (by omega)
  · simp at h5; exact hno (by omega)
  · simp at h6; exact hno (by omega)
  · simp at h1 h2 h3 h4 h5 h6
    have := hyes (by omega)
    rw [wrap64_id (x := 128 * k) (by omega) (by omega), wrap64_id (x := w + 128 * k) (by omega) (by omega), wrap64_id (x := 1024 * s) (by omega) (by omega), wrap64_id (by omega) (by omega)]
    exact this

/-- A head, as the reference takes it apart. -/
def rOk (x : Int) : Bool := decide (0 ≤ x) && decide (x < 67108864) && mayHd (x % 128) (x / 128 % 8) (x / 1024)

theorem ref1_Unpack_C {x : Int} {h : H} {K : Int → Int → Int → Bool → H → Prop} (hno : rOk x = false → K 0 0 0 false h) (hyes : rOk x = true → K (x % 128) (x / 128 % 8) (x / 1024) true h) : gantlineref1_Unpack.C x h K := by
  refine gantlineref1_Unpack.of ?_
  unfold gantlineref1_Unpack.S
  unfold rOk at hno hyes
  refine split_of (fun h1 => ?_) fun h1 => need_of (by decide) (need_of (by decide) (need_of (by decide) (need_of (by decide) (split_of (fun h2 => ?_) fun h2 => ?_))))
  · simp at h1; exact hno (by rw [decide_eq_false (by omega)]; rfl)
  · simp at h1 h2; exact hno (by rw [decide_eq_false (p := x < 67108864) (by omega), Bool.and_false, Bool.false_and])
  · simp at h1 h2
    rw [Int.tmod_eq_emod_of_nonneg h1, Int.tdiv_eq_ediv_of_nonneg h1, Int.tdiv_eq_ediv_of_nonneg h1]
    rw [wrap64_id (x := x / 128) (by omega) (by omega), wrap64_id (x := x / 1024) (by omega) (by omega), Int.tmod_eq_emod_of_nonneg (by omega)]
    rw [decide_eq_true h1, decide_eq_true h2, Bool.true_and] at hno hyes
    refine ref1_Pack_C (fun hn => ?_) fun hy => ?_
    · exact split_true (hno hn)
    · exact split_false (hyes hy)

/-- What the reference says of a field. -/
def rHold (k : Int) (m : Nat) (f w : Int) : Bool :=
  if f < 0 ∨ w < 2 ∨ w - 2 < f then false
  else if k = 1 then m.testBit 0 else if k = 3 then decide (4 ≤ f) && m.testBit 0 else m.testBit f.toNat

theorem rHold_eq {k f w : Int} {m : Nat} (hk : 0 ≤ k ∧ k ≤ 3) : rHold k m f w = holdSh k m f w := by
  unfold rHold holdSh
  split
  · rfl
  · by_cases h1 : k = 1
    · subst h1; simp
    · by_cases h3 : k = 3
      · subst h3; simp [Bool.and_comm]
      · rw [if_neg h1, if_neg h3, if_pos (by omega)]

theorem ref1_Holds_C {k f0 f w : Int} {m : Nat} {h : H} {K : Bool → H → Prop} (hm : m < 2 ^ 64) (hw : -1000 ≤ w ∧ w ≤ 1000) (hk : ∀ h', Fr noB h h' → K (rHold k m f w) h') : gantlineref1_Holds.C k f0 m f w h K := by
  refine gantlineref1_Holds.of ?_
  unfold gantlineref1_Holds.S joinP
  refine newC_of ?_
  have hb := Blk.new h 88 [.int .i64 k, .int .i64 f0, .int .u64 m]
  have hk := hk _ (Fr.push h (.cells ⟨[.int .i64 k, .int .i64 f0, .int .u64 m]⟩ 88))
  generalize h.push (.cells ⟨[.int .i64 k, .int .i64 f0, .int .u64 m]⟩ 88) = g1 at *
  simp only [add_mk]
  rw [wrap64_id (by omega) (by omega)]
  unfold rHold at hk
  refine split_of (fun h1 => ?_) fun h1 => split_of (fun h2 => ?_) fun h2 => split_of (fun h3 => ?_) fun h3 => ?_
  · simp at h1; rwa [if_pos (by omega)] at hk
  · simp at h2; rwa [if_pos (by omega)] at hk
  · simp at h3; rwa [if_pos (by omega)] at hk
  · simp at h1 h2 h3
    rw [if_neg (by omega)] at hk
    refine ldI_of (n := k) (by rw [hb.cell]; rfl) ?_
    have b0 : bitAt m 0 = m.testBit 0 := by unfold bitAt; simp
    refine split_of (fun h4 => ?_) fun h4 => split_of (fun h5 => ?_) fun h5 => ?_
    · simp at h4
      rw [if_pos h4] at hk
      exact ldI_of (n := (m : Int)) (by rw [hb.cell]; rfl) (ref1_Bit_C hm (by rw [b0]; exact hk))
    · simp at h4 h5
      rw [if_neg h4, if_pos h5] at hk
      refine split_of (fun h6 => ?_) fun h6 => ?_
      · rw [show decide (4 ≤ f) = true from h6, Bool.true_and] at hk
        exact ldI_of (n := (m : Int)) (by rw [hb.cell]; rfl) (ref1_Bit_C hm (by rw [b0]; exact hk))
      · rwa [show decide (4 ≤ f) = false from h6, Bool.false_and] at hk
    · simp at h4 h5
      rw [if_neg h4, if_neg h5] at hk
      have bf : bitAt m f = m.testBit f.toNat := by unfold bitAt; rw [decide_eq_true (by omega), Bool.true_and]
      exact ldI_of (n := (m : Int)) (by rw [hb.cell]; rfl) (ref1_Bit_C hm (by rw [bf]; exact hk))

end Go.Proofs.YtkfdbgpegekcfaaGreatDoorP

namespace Go.Proofs.YtkfdbgpegekcfaaGreatDoorP
open Go Go.GL Go.GLM Go.Proofs

/-- A span: class, places taken, places marked. -/
abbrev Spn := Int × Nat × Nat

def spC : List Spn → List Value
  | [] => []
  | s :: r => .int .i64 s.1 :: .int .u64 (s.2.1 : Int) :: .int .u64 (s.2.2 : Int) :: spC r

theorem spC_len (l : List Spn) : (spC l).length = 3 * l.length := by
  induction l with
  | nil => rfl
  | cons s r ih => simp only [spC, List.length_cons, ih]; omega

theorem spC_get {l : List Spn} {i : Nat} {s : Spn} (hi : l[i]? = some s) :
    (spC l)[i * 3]? = some (.int .i64 s.1) ∧ (spC l)[i * 3 + 1]? = some (.int .u64 (s.2.1 : Int)) ∧ (spC l)[i * 3 + 2]? = some (.int .u64 (s.2.2 : Int)) := by
  induction l generalizing i with
  | nil => simp at hi
  | cons a r ih =>
    cases i with
    | zero => simp at hi; subst hi; exact ⟨rfl, rfl, rfl⟩
    | succ i =>
      have := ih (i := i) (by simpa using hi)
      rw [show (i + 1) * 3 = i * 3 + 1 + 1 + 1 from by omega]
      exact this

theorem spC_set0 {l : List Spn} {i : Nat} {s : Spn} (hi : l[i]? = some s) (c : Int) : (spC l).set (i * 3) (.int .i64 c) = spC (l.set i (c, s.2)) := by
  induction l generalizing i with
  | nil => simp at hi
  | cons a r ih =>
    cases i with
    | zero => simp at hi; subst hi; rfl
    | succ i =>
      rw [show (i + 1) * 3 = i * 3 + 1 + 1 + 1 from by omega]
      simp only [spC, List.set_cons_succ]
      rw [ih (by simpa using hi)]

theorem spC_set1 {l : List Spn} {i : Nat} {s : Spn} (hi : l[i]? = some s) (t : Nat) : (spC l).set (i * 3 + 1) (.int .u64 (t : Int)) = spC (l.set i (s.1, t, s.2.2)) := by
  induction l generalizing i with
  | nil => simp at hi
  | cons a r ih =>
    cases i with
    | zero => simp at hi; subst hi; rfl
    | succ i =>
      rw [show (i + 1) * 3 + 1 = i * 3 + 1 + 1 + 1 + 1 from by omega]
      simp only [spC, List.set_cons_succ]
      rw [ih (by simpa using hi)]

theorem spC_set2 {l : List Spn} {i : Nat} {s : Spn} (hi : l[i]? = some s) (m : Nat) : (spC l).set (i * 3 + 2) (.int .u64 (m : Int)) = spC (l.set i (s.1, s.2.1, m)) := by
  induction l generalizing i with
  | nil => simp at hi
  | cons a r ih =>
    cases i with
    | zero => simp at hi; subst hi; rfl
    | succ i =>
      rw [show (i + 1) * 3 + 2 = i * 3 + 2 + 1 + 1 + 1 from by omega]
      simp only [spC, List.set_cons_succ]
      rw [ih (by simpa using hi)]

/-- What an arena holds. -/
structure Ar where
  ws : List Int
  sp : List Spn

/-- Taken and marked are words; the words are as many as the spans ask for. -/
structure Ar.Ok (a : Ar) : Prop where
  words : a.ws.length = a.sp.length * 64
  small : a.sp.length ≤ 512
  bits : ∀ s ∈ a.sp, s.2.1 < 2 ^ 64 ∧ s.2.2 < 2 ^ 64
  cl : ∀ s ∈ a.sp, -1 ≤ s.1 ∧ s.1 ≤ 5

/-- An arena on the heap: its own block, its spans', its words'. -/
structure ArO (tA tS tW : TypeId) (h : H) (A B W : Nat) (a : Ar) : Prop where
  own : Blk h A tA [.slice (some ⟨W, 0, none⟩) a.ws.length a.ws.length, .slice (some ⟨B, 0, none⟩) a.sp.length a.sp.length]
  spans : Blk h B tS (spC a.sp)
  words : Blk h W tW (a.ws.map (Value.int .i64 ·))
  ok : a.Ok
  ty : tA ≠ tS ∧ tA ≠ tW ∧ tS ≠ tW

def Ar.has (a : Ar) (i : Int) : Bool := decide (1 ≤ i ∧ i < a.sp.length)
def Ar.clsAt (a : Ar) (i : Int) : Int := if a.has i then (a.sp[i.toNat]?.map (·.1)).getD (-1) else -1
def Ar.tak (a : Ar) (i : Int) : Nat := (a.sp[i.toNat]?.map (·.2.1)).getD 0
def Ar.mrk (a : Ar) (i : Int) : Nat := (a.sp[i.toNat]?.map (·.2.2)).getD 0
/-- The place of an address in its span, -1 if none is there. -/
def Ar.place (a : Ar) (p : Int) : Int := plOf p (a.clsAt (spn p))
/-- An object begins at the address. -/
def Ar.is (a : Ar) (p : Int) : Bool := decide (0 ≤ a.place p) && (a.tak (spn p)).testBit (a.place p).toNat

section
variable {tA tS tW : TypeId} {h : H} {A B W : Nat} {a : Ar}

theorem arena_has_C (ho : ArO tA tS tW h A B W a) {i : Int} {K : Bool → H → Prop} (hk : K (a.has i) h) : arena_Arena_has.C (some ⟨A, 0, none⟩) i h K := by
  refine arena_Arena_has.of ?_
  unfold arena_Arena_has.S
  unfold Ar.has at hk
  refine split_of (fun h1 => ?_) fun h1 => ?_
  · simp at h1
    refine ⟨_, rfl, ?_⟩
    simp only [add_mk]
    refine ldL_of (by rw [ho.own.cell]; rfl) ?_
    rw [show decide (1 ≤ i ∧ i < (a.sp.length : Int)) = decide (i < (a.sp.length : Int)) from by simp [h1]] at hk
    exact hk
  · simp at h1
    rw [decide_eq_false (by omega)] at hk
    exact hk

theorem Ar.at {a : Ar} {i : Int} (hi : a.has i = true) : ∃ s : Spn, a.sp[i.toNat]? = some s ∧ s ∈ a.sp ∧ a.clsAt i = s.1 ∧ a.tak i = s.2.1 ∧ a.mrk i = s.2.2 := by
  have h0 := hi
  unfold Ar.has at hi
  simp at hi
  have hl : i.toNat < a.sp.length := by omega
  refine ⟨a.sp[i.toNat], by simp [hl], List.getElem_mem _, ?_, ?_, ?_⟩
  · unfold Ar.clsAt; rw [if_pos h0]; simp [hl]
  · unfold Ar.tak; simp [hl]
  · unfold Ar.mrk; simp [hl]

theorem arena_Class_C (ho : ArO tA tS tW h A B W a) {i : Int} {K : Int → H → Prop} (hk : K (a.clsAt i) h) : arena_Arena_Class.C (some ⟨A, 0, none⟩) i h K := by
  refine arena_Arena_Class.of ?_
  unfold arena_Arena_Class.S
  refine arena_has_C ho (split_of (fun h1 => ?_) fun h1 => ?_)
  · simp at h1
    unfold Ar.clsAt at hk
    rw [if_neg (by rw [h1]; decide)] at hk
    exact hk
  · simp at h1
    obtain ⟨s, hs, _, hc, _, _⟩ := Ar.at h1
    unfold Ar.has at h1
    simp at h1
    rw [hc] at hk
    refine ⟨_, rfl, ?_⟩
    simp only [add_mk]
    refine ldL_of (by rw [ho.own.cell]; rfl) (idx_of (by omega) h1.2 ?_)
    simp only [add_mk]
    refine ldI_of (n := s.1) ?_ hk
    rw [ho.spans.cell, Nat.zero_add, Nat.add_zero]
    exact (spC_get hs).1

theorem arena_Taken_C (ho : ArO tA tS tW h A B W a) {i : Int} {K : Int → H → Prop} (hk : K (if a.clsAt i = -1 then 0 else (a.tak i : Int)) h) : arena_Arena_Taken.C (some ⟨A, 0, none⟩) i h K := by
  refine arena_Arena_Taken.of ?_
  unfold arena_Arena_Taken.S
  refine arena_Class_C ho (split_of (fun h1 => ?_) fun h1 => ?_)
  · simp at h1
    rw [if_pos h1] at hk
    exact hk
  · simp at h1
    rw [if_neg h1] at hk
    have h2 : a.has i = true := by
      cases hh : a.has i
      · exact absurd (show a.clsAt i = -1 by unfold Ar.clsAt; rw [if_neg (by rw [hh]; decide)]) h1
      · rfl
    obtain ⟨s, hs, _, _, ht, _⟩ := Ar.at h2
    unfold Ar.has at h2
    simp at h2
    rw [ht] at hk
    refine ⟨_, rfl, ?_⟩
    simp only [add_mk]
    refine ldL_of (by rw [ho.own.cell]; rfl) (idx_of (by omega) h2.2 ?_)
    simp only [add_mk]
    refine ldI_of (n := (s.2.1 : Int)) ?_ hk
    rw [ho.spans.cell, Nat.zero_add]
    exact (spC_get hs).2.1

theorem arena_Marked_C (ho : ArO tA tS tW h A B W a) {i : Int} {K : Int → H → Prop} (hk : K (if a.clsAt i = -1 then 0 else (a.mrk i : Int)) h) : arena_Arena_Marked.C (some ⟨A, 0, none⟩) i h K := by
  refine arena_Arena_Marked.of ?_
  unfold arena_Arena_Marked.S
  refine arena_Class_C ho (split_of (fun h1 => ?_) fun h1 => ?_)
  · simp at h1
    rw [if_pos h1] at hk
    exact hk
  · simp at h1
    rw [if_neg h1] at hk
    have h2 : a.has i = true := by
      cases hh : a.has i
      · exact absurd (show a.clsAt i = -1 by unfold Ar.clsAt; rw [if_neg (by rw [hh]; decide)]) h1
      · rfl
    obtain ⟨s, hs, _, _, _, hm⟩ := Ar.at h2
    unfold Ar.has at h2
    simp at h2
    rw [hm] at hk
    refine ⟨_, rfl, ?_⟩
    simp only [add_mk]
    refine ldL_of (by rw [ho.own.cell]; rfl) (idx_of (by omega) h2.2 ?_)
    simp only [add_mk]
    refine ldI_of (n := (s.2.2 : Int)) ?_ hk
    rw [ho.spans.cell, Nat.zero_add]
    exact (spC_get hs).2.2

theorem arena_Spans_C (ho : ArO tA tS tW h A B W a) {K : Int → H → Prop} (hk : K (a.sp.length : Int) h) : arena_Arena_Spans.C (some ⟨A, 0, none⟩) h K := by
  refine arena_Arena_Spans.of ?_
  unfold arena_Arena_Spans.S
  refine ⟨_, rfl, ?_⟩
  simp only [add_mk]
  exact ldL_of (by rw [ho.own.cell]; rfl) hk

theorem plOf_bd (p c : Int) : plOf p c < 64 ∧ (0 ≤ plOf p c → 0 ≤ c ∧ c ≤ 5) := by
  unfold plOf
  by_cases h1 : wds c = 0
  · rw [if_pos h1]; exact ⟨by decide, fun h => absurd h (by decide)⟩
  · rw [if_neg h1]
    have h2 : 0 ≤ c ∧ c ≤ 5 := by
      rcases cls_cases c with h | h | h | h | h | h | h
      all_goals first | omega | exact absurd (wds_bad h) h1
    refine ⟨?_, fun _ => h2⟩
    have h3 : (p % 64) / wds c ≤ p % 64 := Int.ediv_le_self _ (by omega)
    by_cases h4 : spn p = -1
    · rw [if_pos h4]; decide
    · rw [if_neg h4]
      by_cases h5 : (p % 64) % wds c ≠ 0
      · rw [if_pos h5]; decide
      · rw [if_neg h5]; omega

theorem Ar.place_has {a : Ar} {p : Int} (h : 0 ≤ a.place p) : a.has (spn p) = true ∧ a.place p < 64 ∧ 0 ≤ a.clsAt (spn p) ∧ a.clsAt (spn p) ≤ 5 := by
  have hb := plOf_bd p (a.clsAt (spn p))
  refine ⟨?_, hb.1, hb.2 h⟩
  cases hh : a.has (spn p)
  · have : a.clsAt (spn p) = -1 := by unfold Ar.clsAt; rw [if_neg (by rw [hh]; decide)]
    have := (hb.2 h).1
    omega
  · rfl

theorem bit_andz {m n : Nat} (hm : m < 2 ^ 64) (hn : n < 64) : (bitsI .and .u64 (shrI .u64 (m : Int) (n : Int)) 1 == 0) = !m.testBit n := by
  have h1 : m >>> n < 2 ^ 64 := by
    rw [Nat.shiftRight_eq_div_pow]
    exact Nat.lt_of_le_of_lt (Nat.div_le_self _ _) hm
  have h2 := bitsI_and (a := m >>> n) (b := 1) h1 (by omega)
  rw [show ((1 : Nat) : Int) = 1 from rfl] at h2
  rw [shr_nat hn, h2]
  rw [show Nat.testBit m n = (m >>> n &&& 1 != 0) from by rw [Nat.testBit, Nat.and_comm]]
  have h3 : m >>> n &&& 1 = m >>> n % 2 := Nat.and_one_is_mod _
  rw [h3]
  have : m >>> n % 2 = 0 ∨ m >>> n % 2 = 1 := by omega
  rcases this with h | h <;> simp [h]

theorem arena_find_C (ho : ArO tA tS tW h A B W a) {p : Int} {K : Option Addr → Int → H → Prop} (hno : a.is p = false → K none 0 h)
    (hyes : a.is p = true → K (some ⟨B, (spn p).toNat * 3, none⟩) ((2 ^ (a.place p).toNat : Nat) : Int) h) : arena_Arena_find.C (some ⟨A, 0, none⟩) p h K := by
  refine arena_Arena_find.of ?_
  unfold arena_Arena_find.S joinP
  refine geom_Span_C (arena_Class_C ho (geom_Place_C ?_))
  rw [show plOf p (a.clsAt (spn p)) = a.place p from rfl]
  unfold Ar.is at hno hyes
  refine split_of (fun h1 => ?_) fun h1 => ?_
  · simp at h1
    exact hno (by rw [decide_eq_false (by omega), Bool.false_and])
  · simp at h1
    obtain ⟨hh, h64, _⟩ := Ar.place_has h1
    obtain ⟨s, hs, hmem, _, ht, _⟩ := Ar.at hh
    have hb := (ho.ok.bits s hmem).1
    rw [decide_eq_true h1, Bool.true_and, ht] at hno hyes
    unfold Ar.has at hh
    simp at hh
    generalize a.place p = g at *
    obtain ⟨g, rfl⟩ : ∃ n : Nat, g = n := ⟨g.toNat, by omega⟩
    rw [wrapu64_id (by omega) (by omega)]
    rw [Int.toNat_natCast] at hno hyes
    refine ⟨_, rfl, ?_⟩
    simp only [add_mk]
    refine ldL_of (by rw [ho.own.cell]; rfl) (idx_of (by omega) hh.2 ?_)
    simp only [add_mk]
    refine ldI_of (n := (s.2.1 : Int)) ?_ (need_of (by omega) ?_)
    · rw [ho.spans.cell, Nat.zero_add]
      exact (spC_get hs).2.1
    · rw [bit_andz hb (by omega)]
      refine split_of (fun h2 => ?_) fun h2 => ?_
      · exact hno (by simpa using h2)
      · refine ⟨_, rfl, ?_⟩
        simp only [add_mk]
        refine ldL_of (by rw [ho.own.cell]; rfl) (idx_of (by omega) hh.2 (need_of (by omega) ?_))
        rw [Nat.zero_add, shl_one (by omega)]
        exact hyes (by simpa using h2)

theorem arena_Is_C (ho : ArO tA tS tW h A B W a) {p : Int} {K : Bool → H → Prop} (hk : K (a.is p) h) : arena_Arena_Is.C (some ⟨A, 0, none⟩) p h K := by
  refine arena_Arena_Is.of ?_
  unfold arena_Arena_Is.S
  refine arena_find_C ho (fun h1 => ?_) fun h1 => ?_
  · rw [h1] at hk; exact hk
  · rw [h1] at hk; exact hk

end
end Go.Proofs.YtkfdbgpegekcfaaGreatDoorP

namespace Go.Proofs.YtkfdbgpegekcfaaGreatDoorP
open Go Go.GL Go.GLM Go.Proofs

section
variable {tA tS tW : TypeId} {h h' : H} {A B W : Nat} {a : Ar}

theorem ArO.ab (ho : ArO tA tS tW h A B W a) : A ≠ B := ho.own.ne ho.spans ho.ty.1
theorem ArO.aw (ho : ArO tA tS tW h A B W a) : A ≠ W := ho.own.ne ho.words ho.ty.2.1
theorem ArO.bw (ho : ArO tA tS tW h A B W a) : B ≠ W := ho.spans.ne ho.words ho.ty.2.2

theorem ArO.fr {S : Nat → Prop} (ho : ArO tA tS tW h A B W a) (hf : Fr S h h') (hA : ¬ S A) (hB : ¬ S B) (hW : ¬ S W) : ArO tA tS tW h' A B W a :=
  ⟨hf.blk ho.own hA, hf.blk ho.spans hB, hf.blk ho.words hW, ho.ok, ho.ty⟩

theorem ArO.frNo (ho : ArO tA tS tW h A B W a) (hf : Fr noB h h') : ArO tA tS tW h' A B W a := ho.fr hf (fun h => h) (fun h => h) (fun h => h)

theorem ArO.sp' (ho : ArO tA tS tW h A B W a) (hf : Fr (· = B) h h') {sp' : List Spn} (hb : Blk h' B tS (spC sp')) (hl : sp'.length = a.sp.length) (hok : (⟨a.ws, sp'⟩ : Ar).Ok) :
    ArO tA tS tW h' A B W ⟨a.ws, sp'⟩ :=
  ⟨by have := hf.blk ho.own ho.ab; rw [← hl] at this; exact this, hb, hf.blk ho.words (fun h => ho.bw h.symm), hok, ho.ty⟩

theorem ArO.ws' (ho : ArO tA tS tW h A B W a) (hf : Fr (· = W) h h') {ws' : List Int} (hb : Blk h' W tW (ws'.map (Value.int .i64 ·))) (hl : ws'.length = a.ws.length) :
    ArO tA tS tW h' A B W ⟨ws', a.sp⟩ :=
  ⟨by have := hf.blk ho.own ho.aw; rw [← hl] at this; exact this, hf.blk ho.spans ho.bw, hb, ⟨by rw [← ho.ok.words]; exact hl, ho.ok.small, ho.ok.bits, ho.ok.cl⟩, ho.ty⟩

theorem Ar.Ok.set (ok : a.Ok) {i : Nat} {s : Spn} (hb : s.2.1 < 2 ^ 64 ∧ s.2.2 < 2 ^ 64) (hc : -1 ≤ s.1 ∧ s.1 ≤ 5) : (⟨a.ws, a.sp.set i s⟩ : Ar).Ok := by
  refine ⟨by simp [ok.words], by simpa using ok.small, fun x hx => ?_, fun x hx => ?_⟩
  · rcases List.mem_or_eq_of_mem_set hx with h | h
    · exact ok.bits x h
    · subst h; exact hb
  · rcases List.mem_or_eq_of_mem_set hx with h | h
    · exact ok.cl x h
    · subst h; exact hc

theorem and_pow (m g : Nat) : m &&& 2 ^ g = if m.testBit g then 2 ^ g else 0 := by
  refine Nat.eq_of_testBit_eq fun i => ?_
  rw [Nat.testBit_and, Nat.testBit_two_pow]
  by_cases hi : g = i
  · subst hi
    cases m.testBit g <;> simp
  · rw [decide_eq_false hi, Bool.and_false]
    cases m.testBit g
    · simp
    · rw [if_pos rfl, Nat.testBit_two_pow, decide_eq_false hi]

theorem and_pow_ne {m g : Nat} (hm : m < 2 ^ 64) (hg : g < 64) : (bitsI .and .u64 (m : Int) ((2 ^ g : Nat) : Int) != 0) = m.testBit g := by
  have h2 : (2 : Nat) ^ g < 2 ^ 64 := Nat.pow_lt_pow_right (by omega) hg
  rw [bitsI_and hm h2, and_pow]
  have h3 : 0 < (2 : Nat) ^ g := Nat.two_pow_pos g
  generalize (2 : Nat) ^ g = q at *
  cases m.testBit g
  · rfl
  · rw [if_pos rfl]
    exact bne_iff_ne.2 (by omega)

/-- The address' object bears a mark. -/
def Ar.marked (a : Ar) (p : Int) : Bool := (a.mrk (spn p)).testBit (a.place p).toNat
/-- The arena with the address' object marked. -/
def Ar.markAt (a : Ar) (p : Int) : Ar :=
  if a.is p then ⟨a.ws, a.sp.set (spn p).toNat (a.clsAt (spn p), a.tak (spn p), a.mrk (spn p) ||| 2 ^ (a.place p).toNat)⟩ else a

theorem Ar.is_facts (ok : a.Ok) {p : Int} (h : a.is p = true) : ∃ (s : Spn) (g : Nat), a.sp[(spn p).toNat]? = some s ∧ s ∈ a.sp ∧ a.clsAt (spn p) = s.1 ∧ a.tak (spn p) = s.2.1 ∧ a.mrk (spn p) = s.2.2
    ∧ a.place p = (g : Int) ∧ g < 64 ∧ 1 ≤ spn p ∧ spn p < a.sp.length ∧ s.2.1 < 2 ^ 64 ∧ s.2.2 < 2 ^ 64 ∧ 0 ≤ s.1 ∧ s.1 ≤ 5 ∧ s.2.1.testBit g = true := by
  unfold Ar.is at h
  simp at h
  obtain ⟨hh, h64, h0, h5⟩ := Ar.place_has h.1
  obtain ⟨s, hs, hmem, hc, ht, hm⟩ := Ar.at hh
  unfold Ar.has at hh
  simp at hh
  have hb := ok.bits s hmem
  exact ⟨s, (a.place p).toNat, hs, hmem, hc, ht, hm, by omega, by omega, hh.1, hh.2, hb.1, hb.2, by omega, by omega, by rw [← ht]; exact h.2⟩

theorem arena_Mark_C (ho : ArO tA tS tW h A B W a) {p : Int} {K : Bool → H → Prop} (hno : a.is p = false ∨ a.marked p = true → K false h)
    (hyes : a.is p = true → a.marked p = false → ∀ h', Fr (· = B) h h' → ArO tA tS tW h' A B W (a.markAt p) → K true h') : arena_Arena_Mark.C (some ⟨A, 0, none⟩) p h K := by
  refine arena_Arena_Mark.of ?_
  unfold arena_Arena_Mark.S joinP
  refine arena_find_C ho (fun h1 => ?_) fun h1 => ?_
  · exact split_true (hno (.inl h1))
  · obtain ⟨s, g, hs, hmem, hc, ht, hm, hg, hg64, h1s, hss, hbt, hbm, hc0, hc5, htb⟩ := Ar.is_facts ho.ok h1
    unfold Ar.marked at hno hyes
    unfold Ar.markAt at hyes
    rw [if_pos h1, hc, ht, hm, hg] at hyes
    rw [hm, hg] at hno
    rw [hg]
    simp only [Int.toNat_natCast] at hno hyes ⊢
    refine split_false ⟨_, rfl, ?_⟩
    simp only [add_mk]
    have hcell := (spC_get hs).2.2
    refine ldI_of (n := (s.2.2 : Int)) (by rw [ho.spans.cell]; exact hcell) ?_
    rw [and_pow_ne hbm hg64]
    refine split_of (fun h2 => hno (.inr h2)) fun h2 => ?_
    refine ⟨_, rfl, ?_⟩
    simp only [add_mk]
    refine ldI_of (n := (s.2.2 : Int)) (by rw [ho.spans.cell]; exact hcell) ⟨_, rfl, ?_⟩
    simp only [add_mk, Nat.add_zero]
    have hlen : (spn p).toNat * 3 + 2 < (spC a.sp).length := by rw [spC_len]; omega
    refine stC_of ho.spans hlen ?_
    have h2g : (2 : Nat) ^ g < 2 ^ 64 := Nat.pow_lt_pow_right (by omega) hg64
    have hf := Fr.set h ⟨B, (spn p).toNat * 3 + 2, none⟩ (.int .u64 (bitsI .or .u64 (s.2.2 : Int) ((2 ^ g : Nat) : Int)))
    have hb := ho.spans.set ((spn p).toNat * 3 + 2) (.int .u64 (bitsI .or .u64 (s.2.2 : Int) ((2 ^ g : Nat) : Int)))
    rw [bitsI_or hbm h2g, spC_set2 hs] at hb
    refine hyes h1 h2 _ hf (ho.sp' hf ?_ (by simp) (ho.ok.set ⟨hbt, Nat.or_lt_two_pow hbm h2g⟩ ⟨by simp only; omega, hc5⟩))
    rw [bitsI_or hbm h2g]
    exact hb

/-- The word of a field lies in the address' object. -/
def Ar.inn (a : Ar) (p f : Int) : Bool := a.is p && decide (0 ≤ f ∧ f < wds (a.clsAt (spn p)))
def Ar.word (a : Ar) (p f : Int) : Int := (a.ws[(p + f).toNat]?).getD 0

theorem plOf_in {p c : Int} (h : 0 ≤ plOf p c) : 0 ≤ p ∧ p < 32768 ∧ spn p = p / 64 ∧ p % 64 + wds c ≤ 64 := by
  have hb := plOf_bd p c
  have h2 := hb.2 h
  unfold plOf at h
  by_cases h1 : wds c = 0
  · rw [if_pos h1] at h; exact absurd h (by decide)
  · rw [if_neg h1] at h
    by_cases h4 : spn p = -1
    · rw [if_pos h4] at h; exact absurd h (by decide)
    · rw [if_neg h4] at h
      by_cases h5 : (p % 64) % wds c ≠ 0
      · rw [if_pos h5] at h; exact absurd h (by decide)
      · have h6 : spn p = p / 64 ∧ 0 ≤ p ∧ p < 32768 := by
          unfold spn at h4 ⊢
          by_cases h7 : p < 0 ∨ 32768 ≤ p
          · rw [if_pos h7] at h4; exact absurd rfl h4
          · rw [if_neg h7]; omega
        refine ⟨h6.2.1, h6.2.2, h6.1, ?_⟩
        rcases cls_cases c with rfl | rfl | rfl | rfl | rfl | rfl | h8
        all_goals first | omega | (simp only [wds] at h5 ⊢; simp at h5 ⊢; omega)

theorem Ar.inn_facts (ok : a.Ok) {p f : Int} (h : a.inn p f = true) : a.is p = true ∧ 0 ≤ f ∧ f < wds (a.clsAt (spn p)) ∧ 0 ≤ p ∧ p < 32768 ∧ p + f < a.ws.length := by
  unfold Ar.inn at h
  simp at h
  obtain ⟨h1, h2, h3⟩ := h
  obtain ⟨s, g, hs, hmem, hc, ht, hm, hg, hg64, h1s, hss, _⟩ := Ar.is_facts ok h1
  have h4 := plOf_in (p := p) (c := a.clsAt (spn p)) (by rw [show plOf p (a.clsAt (spn p)) = a.place p from rfl]; omega)
  have := ok.words
  exact ⟨h1, h2, h3, h4.1, h4.2.1, by omega⟩

theorem arena_word_C (ho : ArO tA tS tW h A B W a) {p f : Int} {K : Option Addr → H → Prop} (hno : a.inn p f = false → K none h)
    (hyes : a.inn p f = true → K (some ⟨W, (p + f).toNat, none⟩) h) : arena_Arena_word.C (some ⟨A, 0, none⟩) p f h K := by
  refine arena_Arena_word.of ?_
  unfold arena_Arena_word.S joinP
  refine arena_find_C ho (fun h1 => ?_) fun h1 => ?_
  · exact split_true (hno (by unfold Ar.inn; rw [h1]; rfl))
  · obtain ⟨s, g, hs, hmem, hc, ht, hm, hg, hg64, h1s, hss, hbt, hbm, hc0, hc5, htb⟩ := Ar.is_facts ho.ok h1
    refine split_false (split_of (fun h2 => ?_) fun h2 => ?_)
    · simp at h2
      exact hno (by unfold Ar.inn; rw [h1, decide_eq_false (by omega)]; rfl)
    · simp at h2
      refine ⟨_, rfl, ?_⟩
      simp only [add_mk]
      refine ldI_of (n := s.1) (by rw [ho.spans.cell, Nat.add_zero]; exact (spC_get hs).1) (geom_Words_C ?_)
      refine split_of (fun h3 => ?_) fun h3 => ?_
      · simp at h3
        exact hno (by unfold Ar.inn; rw [h1, hc, decide_eq_false (by omega)]; rfl)
      · simp at h3
        have hin : a.inn p f = true := by unfold Ar.inn; rw [h1, hc, decide_eq_true (by omega)]; rfl
        obtain ⟨_, _, _, h5, h6, h7⟩ := Ar.inn_facts ho.ok hin
        have hw := wds_bd s.1
        refine ⟨_, rfl, ?_⟩
        simp only [add_mk]
        refine ldL_of (by rw [ho.own.cell]; rfl) ?_
        rw [wrap64_id (by omega) (by omega)]
        refine idx_of (by omega) h7 ?_
        rw [Nat.zero_add, Nat.mul_one]
        exact hyes hin

theorem arena_Read_C (ho : ArO tA tS tW h A B W a) {p f : Int} {K : Int → Int → H → Prop} (hno : a.inn p f = false → K 0 1 h)
    (hyes : a.inn p f = true → K (a.word p f) 0 h) : arena_Arena_Read.C (some ⟨A, 0, none⟩) p f h K := by
  refine arena_Arena_Read.of ?_
  unfold arena_Arena_Read.S
  refine arena_word_C ho (fun h1 => split_true (hno h1)) fun h1 => split_false ⟨_, rfl, ?_⟩
  obtain ⟨_, _, _, h5, h6, h7⟩ := Ar.inn_facts ho.ok h1
  have hl : (p + f).toNat < a.ws.length := by omega
  refine ldI_of (n := a.word p f) ?_ (hyes h1)
  rw [ho.words.cell]
  unfold Ar.word
  simp [hl]

/-- The arena with a field written. -/
def Ar.put (a : Ar) (p f x : Int) : Ar := if a.inn p f then ⟨a.ws.set (p + f).toNat x, a.sp⟩ else a

theorem arena_Write_C (ho : ArO tA tS tW h A B W a) {p f x : Int} {K : Int → H → Prop} (hno : a.inn p f = false → K 1 h)
    (hyes : a.inn p f = true → ∀ h', Fr (· = W) h h' → ArO tA tS tW h' A B W (a.put p f x) → K 0 h') : arena_Arena_Write.C (some ⟨A, 0, none⟩) p f x h K := by
  refine arena_Arena_Write.of ?_
  unfold arena_Arena_Write.S
  refine arena_word_C ho (fun h1 => split_true (hno h1)) fun h1 => split_false ⟨_, rfl, ?_⟩
  obtain ⟨_, _, _, h5, h6, h7⟩ := Ar.inn_facts ho.ok h1
  have hl : (p + f).toNat < a.ws.length := by omega
  simp only [add_mk, Nat.add_zero]
  refine stC_of ho.words (by simpa using hl) ?_
  have hf := Fr.set h ⟨W, (p + f).toNat, none⟩ (.int .i64 x)
  unfold Ar.put at hyes
  rw [if_pos h1] at hyes
  refine hyes h1 _ hf (ho.ws' hf ?_ (by simp))
  have := ho.words.set (p + f).toNat (.int .i64 x)
  rw [List.map_set]
  exact this

end
end Go.Proofs.YtkfdbgpegekcfaaGreatDoorP

namespace Go.Proofs.YtkfdbgpegekcfaaGreatDoorP
open Go Go.GL Go.GLM Go.Proofs

-- the words that hold the program's operations stay shut: else the unifier unfolds the program
attribute [local irreducible] rawV rawN rawU

theorem ty_words : Tryz.prog.underlying 28 = some (.slice 2) := by kernel_rfl
theorem in_word : (Tryz.prog.info? 2).map (fun i => (i.zero, i.size, i.bytes)) = some (some (.int .i64 0), 1, 8) := by kernel_rfl
theorem ty_spans : Tryz.prog.underlying 116 = some (.slice 113) := by kernel_rfl
theorem in_span : (Tryz.prog.info? 113).map (fun i => (i.zero, i.size, i.bytes)) = some (some (.agg #[.int .i64 0, .int .u64 0, .int .u64 0]), 3, 24) := by kernel_rfl

theorem make_words {h : H} {n : Nat} (hn : n ≤ 100000) {K : Value → H → Prop}
    (hk : K (.slice (some ⟨h.size, 0, none⟩) n n) (h.push (.cells (madeCells (Value.int .i64 0).cells (n * 1)) 2))) :
    rawV Tryz.prog (Instr.makeSlice 28 (.int .i64 (n : Int)) (.int .i64 (n : Int))) h K := by
  have := make_of (K := K) (h := h) ty_words in_word (n := (n : Int)) (by omega) (by omega) (by omega)
  rw [Int.toNat_natCast] at this
  exact this hk

theorem make_spans {h : H} {n : Nat} (hn : n ≤ 100000) {K : Value → H → Prop}
    (hk : K (.slice (some ⟨h.size, 0, none⟩) n n) (h.push (.cells (madeCells (Value.agg #[.int .i64 0, .int .u64 0, .int .u64 0]).cells (n * 3)) 113))) :
    rawV Tryz.prog (Instr.makeSlice 116 (.int .i64 (n : Int)) (.int .i64 (n : Int))) h K := by
  have := make_of (K := K) (h := h) ty_spans in_span (n := (n : Int)) (by omega) (by omega) (by omega)
  rw [Int.toNat_natCast] at this
  exact this hk

theorem made_words (n : Nat) : (madeCells (Value.int .i64 0).cells (n * 1)).toList = (List.replicate n (0 : Int)).map (Value.int .i64 ·) := by
  rw [show (Value.int .i64 0).cells = #[Value.int .i64 0] from rfl, toList_madeCells_one, Nat.mul_one]
  simp

theorem spC_zero (n : Nat) : ∀ j, j < n * 3 → (spC (List.replicate n (0, 0, 0)))[j]? = some ((#[Value.int .i64 0, .int .u64 0, .int .u64 0])[j % 3]!) := by
  induction n with
  | zero => intro j h; omega
  | succ n ih =>
    intro j h
    rw [List.replicate_succ]
    match j with
    | 0 => rfl
    | 1 => rfl
    | 2 => rfl
    | j + 3 =>
      have := ih j (by omega)
      rw [show (j + 3) % 3 = j % 3 from by omega, ← this]
      rfl

theorem made_spans (n : Nat) : (madeCells (Value.agg #[.int .i64 0, .int .u64 0, .int .u64 0]).cells (n * 3)).toList = spC (List.replicate n (0, 0, 0)) := by
  refine List.ext_getElem? fun j => ?_
  by_cases hj : j < n * 3
  · rw [spC_zero n j hj]
    simp [madeCells, hj, Value.cells]
  · have h1 : (spC (List.replicate n (0, 0, 0)))[j]? = none := by
      rw [List.getElem?_eq_none]; rw [spC_len]; simp; omega
    rw [h1, List.getElem?_eq_none]
    simp [madeCells]; omega

theorem Blk.newA (h : H) (t : TypeId) (a : Array Value) : Blk (h.push (.cells a t)) h.size t a.toList := Blk.new h t a.toList

theorem arena_fill {h : H} {A B W n : Nat} {ws : List Int} (own : Blk h A 118 [.slice (some ⟨W, 0, none⟩) ws.length ws.length, .slice (some ⟨B, 0, none⟩) n n])
    (sp : Blk h B 113 (spC (List.replicate n (0, 0, 0)))) (wd : Blk h W 2 (ws.map (Value.int .i64 ·))) (hws : ws.length = n * 64) (hn : n ≤ 512)
    {K : Option Addr → Int → H → Prop} (hk : ∀ h', Fr (· = B) h h' → ArO 118 113 2 h' A B W ⟨ws, List.replicate n (-1, 0, 0)⟩ → K (some ⟨A, 0, none⟩) 0 h') :
    loopT (σ := (Int × Unit)) (fun J18 s19 h20 => split (decide (s19.1 < ((n : Nat) : Int))) (nilC (some ⟨A, 0, none⟩) (fun a21 => ldL h20 (Addr.add a21 1) (fun p22 k23 k24 => idx p22 k23 s19.1 3 (fun a25 => stC h20 (Addr.add (Addr.add a25 0) 0) (.int .i64 (-1)) (fun h26 => J18 ((IntKind.wrap .i64 (s19.1 + 1)), ()) h26))))) (K (some ⟨A, 0, none⟩) 0 h20)) (0, ()) h := by
  have hab : A ≠ B := own.ne sp (by decide)
  have hwb : W ≠ B := wd.ne sp (by decide)
  refine loop_of (fun s h' => Fr (· = B) h h' ∧ 0 ≤ s.1 ∧ s.1 ≤ n ∧ Blk h' B 113 (spC (List.replicate s.1.toNat (-1, 0, 0) ++ List.replicate (n - s.1.toNat) (0, 0, 0)))) (fun s _ => (n - s.1).toNat)
    ⟨Fr.refl _ _, by simp, by simp, by simpa using sp⟩ ?_
  rintro ⟨i, _⟩ h' ⟨hf, h0, hin, hb⟩
  simp only at h0 hin hb ⊢
  refine split_of (fun h1 => ?_) fun h1 => ?_
  · simp at h1
    refine ⟨_, rfl, ?_⟩
    simp only [add_mk]
    refine ldL_of (by rw [(hf.blk own hab).cell]; rfl) (idx_of h0 h1 ?_)
    simp only [add_mk, Nat.add_zero, Nat.zero_add]
    refine stC_of hb (by rw [spC_len]; simp; omega) ?_
    have hs : (List.replicate i.toNat ((-1, 0, 0) : Spn) ++ List.replicate (n - i.toNat) (0, 0, 0))[i.toNat]? = some (0, 0, 0) := by
      rw [List.getElem?_append_right (by simp), List.length_replicate, Nat.sub_self, List.getElem?_replicate, if_pos (by omega)]
    have hb' := hb.set (i.toNat * 3) (.int .i64 (-1))
    rw [spC_set0 hs] at hb'
    have e : (List.replicate i.toNat ((-1, 0, 0) : Spn) ++ List.replicate (n - i.toNat) (0, 0, 0)).set i.toNat (-1, 0, 0) = List.replicate (i.toNat + 1) (-1, 0, 0) ++ List.replicate (n - (i.toNat + 1)) (0, 0, 0) := by
      obtain ⟨k, hk'⟩ : ∃ k, n - i.toNat = k + 1 := ⟨n - i.toNat - 1, by omega⟩
      rw [hk', show n - (i.toNat + 1) = k from by omega, List.set_append_right _ _ (by simp), List.length_replicate, Nat.sub_self, List.replicate_succ (n := k), List.set_cons_zero, List.replicate_succ', List.append_assoc]
      rfl
    rw [e] at hb'
    rw [wrap64_id (by omega) (by omega)]
    refine ⟨⟨hf.trans (Fr.set _ _ _), by omega, by omega, ?_⟩, by omega⟩
    rw [show (i + 1).toNat = i.toNat + 1 from by omega]
    exact hb'
  · simp at h1
    obtain rfl : i = n := by omega
    rw [Int.toNat_natCast, Nat.sub_self, List.replicate_zero, List.append_nil] at hb
    refine hk h' hf ⟨by have := hf.blk own hab; simpa using this, hb, hf.blk wd hwb, ⟨by simp [hws], by simpa using hn, ?_, ?_⟩, by decide⟩
    · intro s hs; rw [List.eq_of_mem_replicate hs]; decide
    · intro s hs; rw [List.eq_of_mem_replicate hs]; decide

theorem arena_New_C {x : Int} {h : H} {K : Option Addr → Int → H → Prop} (hno : x < 8 ∨ 512 < x → K none 1 h)
    (hyes : 8 ≤ x → x ≤ 512 → ∀ h' A B W, Fr noB h h' → h.size ≤ A → h.size ≤ B → h.size ≤ W → ArO 118 113 2 h' A B W ⟨List.replicate (x.toNat * 64) 0, List.replicate x.toNat (-1, 0, 0)⟩ → K (some ⟨A, 0, none⟩) 0 h') :
    arena_New.C x h K := by
  refine arena_New.of ?_
  unfold arena_New.S joinP
  refine split_of (fun h1 => ?_) fun h1 => split_of (fun h2 => ?_) fun h2 => ?_
  · simp at h1; exact hno (.inl h1)
  · simp at h2; exact hno (.inr h2)
  · simp at h1 h2
    rw [wrap64_id (by omega) (by omega)]
    obtain ⟨n, rfl⟩ : ∃ n : Nat, x = n := ⟨x.toNat, by omega⟩
    have hyes := hyes h1 h2
    rw [Int.toNat_natCast] at hyes
    rw [show (n : Int) * 64 = ((n * 64 : Nat) : Int) from by omega]
    have sub : ∀ {a b : H} {B : Nat}, Fr noB h a → h.size ≤ B → Fr (· = B) a b → Fr noB h b := fun hf hB hg => hf.since hg fun x hx => .inr (by omega)
    refine need_of ?_ ?_
    · refine make_words (by omega) ⟨_, _, _, rfl, ?_⟩
      refine make_spans (by omega) ⟨_, _, _, rfl, ?_⟩
      have b1 := Blk.newA h 2 (madeCells (Value.int .i64 0).cells (n * 64 * 1))
      rw [made_words] at b1
      have f1 := Fr.push h (.cells (madeCells (Value.int .i64 0).cells (n * 64 * 1)) 2)
      have s1 : (h.push (.cells (madeCells (Value.int .i64 0).cells (n * 64 * 1)) 2)).size = h.size + 1 := Array.size_push _
      generalize h.push (.cells (madeCells (Value.int .i64 0).cells (n * 64 * 1)) 2) = g1 at *
      have b2 := Blk.newA g1 113 (madeCells (Value.agg #[.int .i64 0, .int .u64 0, .int .u64 0]).cells (n * 3))
      rw [made_spans] at b2
      have f2 := Fr.push g1 (.cells (madeCells (Value.agg #[.int .i64 0, .int .u64 0, .int .u64 0]).cells (n * 3)) 113)
      have s2 : (g1.push (.cells (madeCells (Value.agg #[.int .i64 0, .int .u64 0, .int .u64 0]).cells (n * 3)) 113)).size = g1.size + 1 := Array.size_push _
      generalize g1.push (.cells (madeCells (Value.agg #[.int .i64 0, .int .u64 0, .int .u64 0]).cells (n * 3)) 113) = g2 at *
      have b1 := f2.blk b1 (fun h => h)
      refine newC_of ⟨_, rfl, ?_⟩
      have b3 := Blk.new g2 118 [.slice (some ⟨h.size, 0, none⟩) (n * 64) (n * 64), .slice (some ⟨g1.size, 0, none⟩) n n]
      have f3 := Fr.push g2 (.cells ⟨[.slice (some ⟨h.size, 0, none⟩) (n * 64) (n * 64), .slice (some ⟨g1.size, 0, none⟩) n n]⟩ 118)
      generalize g2.push (.cells ⟨[.slice (some ⟨h.size, 0, none⟩) (n * 64) (n * 64), .slice (some ⟨g1.size, 0, none⟩) n n]⟩ 118) = g3 at *
      have b1 := f3.blk b1 (fun h => h)
      have b2 := f3.blk b2 (fun h => h)
      have ff := (f1.trans f2).trans f3
      simp only [add_mk]
      refine ldL_of (by rw [b3.cell]; rfl) ?_
      refine arena_fill (ws := List.replicate (n * 64) 0) (by rw [List.length_replicate]; exact b3) b2 b1 (by simp) (by omega) fun h' hf ho => ?_
      exact hyes h' g2.size g1.size h.size (sub ff (by omega) hf) (by omega) (by omega) (by omega) ho
    · refine make_spans (by omega) ⟨_, _, _, rfl, ?_⟩
      refine make_words (by omega) ⟨_, _, _, rfl, ?_⟩
      have b2 := Blk.newA h 113 (madeCells (Value.agg #[.int .i64 0, .int .u64 0, .int .u64 0]).cells (n * 3))
      rw [made_spans] at b2
      have f1 := Fr.push h (.cells (madeCells (Value.agg #[.int .i64 0, .int .u64 0, .int .u64 0]).cells (n * 3)) 113)
      have s1 : (h.push (.cells (madeCells (Value.agg #[.int .i64 0, .int .u64 0, .int .u64 0]).cells (n * 3)) 113)).size = h.size + 1 := Array.size_push _
      generalize h.push (.cells (madeCells (Value.agg #[.int .i64 0, .int .u64 0, .int .u64 0]).cells (n * 3)) 113) = g1 at *
      have b1 := Blk.newA g1 2 (madeCells (Value.int .i64 0).cells (n * 64 * 1))
      rw [made_words] at b1
      have f2 := Fr.push g1 (.cells (madeCells (Value.int .i64 0).cells (n * 64 * 1)) 2)
      have s2 : (g1.push (.cells (madeCells (Value.int .i64 0).cells (n * 64 * 1)) 2)).size = g1.size + 1 := Array.size_push _
      generalize g1.push (.cells (madeCells (Value.int .i64 0).cells (n * 64 * 1)) 2) = g2 at *
      have b2 := f2.blk b2 (fun h => h)
      refine newC_of ⟨_, rfl, ?_⟩
      have b3 := Blk.new g2 118 [.slice (some ⟨g1.size, 0, none⟩) (n * 64) (n * 64), .slice (some ⟨h.size, 0, none⟩) n n]
      have f3 := Fr.push g2 (.cells ⟨[.slice (some ⟨g1.size, 0, none⟩) (n * 64) (n * 64), .slice (some ⟨h.size, 0, none⟩) n n]⟩ 118)
      generalize g2.push (.cells ⟨[.slice (some ⟨g1.size, 0, none⟩) (n * 64) (n * 64), .slice (some ⟨h.size, 0, none⟩) n n]⟩ 118) = g3 at *
      have b1 := f3.blk b1 (fun h => h)
      have b2 := f3.blk b2 (fun h => h)
      have ff := (f1.trans f2).trans f3
      simp only [add_mk]
      refine ldL_of (by rw [b3.cell]; rfl) ?_
      refine arena_fill (ws := List.replicate (n * 64) 0) (by rw [List.length_replicate]; exact b3) b2 b1 (by simp) (by omega) fun h' hf ho => ?_
      exact hyes h' g2.size h.size g1.size (sub ff (by omega) hf) (by omega) (by omega) (by omega) ho

end Go.Proofs.YtkfdbgpegekcfaaGreatDoorP

namespace Go.Proofs.YtkfdbgpegekcfaaGreatDoorP
open Go Go.GL Go.GLM Go.Proofs

section
variable {tA tS tW : TypeId} {h h' : H} {A B W : Nat} {a : Ar}

/-- The arena with a span begun anew. -/
def Ar.setAt (a : Ar) (i c : Int) : Ar := ⟨a.ws, a.sp.set i.toNat (c, 0, 0)⟩

theorem wds_zero {c : Int} : wds c = 0 ↔ c < 0 ∨ 5 < c := by
  constructor
  · intro h
    rcases cls_cases c with rfl | rfl | rfl | rfl | rfl | rfl | h5
    all_goals first | exact h5 | exact absurd h (by decide)
  · exact wds_bad

theorem arena_Set_C (ho : ArO tA tS tW h A B W a) {i c : Int} {K : Int → H → Prop} (hbad : a.has i = false ∨ c < 0 ∨ 5 < c → K 1 h)
    (hno : a.has i = true → 0 ≤ c → c ≤ 5 → a.clsAt i ≠ -1 → K 5 h)
    (hyes : a.has i = true → 0 ≤ c → c ≤ 5 → a.clsAt i = -1 → ∀ h', Fr (· = B) h h' → ArO tA tS tW h' A B W (a.setAt i c) → K 0 h') : arena_Arena_Set.C (some ⟨A, 0, none⟩) i c h K := by
  refine arena_Arena_Set.of ?_
  unfold arena_Arena_Set.S joinP
  refine arena_has_C ho (split_of (fun h1 => ?_) fun h1 => geom_Words_C (split_of (fun h2 => ?_) fun h2 => ?_))
  · simp at h1; exact hbad (.inl h1)
  · simp at h2; exact hbad (.inr (wds_zero.1 h2))
  · simp at h1 h2
    have hc : 0 ≤ c ∧ c ≤ 5 := by
      have h4 : ¬ (c < 0 ∨ 5 < c) := fun h => h2 (wds_zero.2 h)
      clear hbad hno hyes
      omega
    obtain ⟨s, hs, hmem, hcl, _, _⟩ := Ar.at h1
    have h1' := h1
    unfold Ar.has at h1'
    simp at h1'
    refine ⟨_, rfl, ?_⟩
    simp only [add_mk]
    refine ldL_of (by rw [ho.own.cell]; rfl) (idx_of (by omega) h1'.2 ?_)
    simp only [add_mk, Nat.zero_add, Nat.add_zero]
    refine ldI_of (n := s.1) (by rw [ho.spans.cell]; exact (spC_get hs).1) (split_of (fun h3 => ?_) fun h3 => ?_)
    · simp at h3; exact hno h1 hc.1 hc.2 (by rw [hcl]; exact h3)
    · simp at h3
      refine ⟨_, rfl, ?_⟩
      simp only [add_mk]
      refine ldL_of (by rw [ho.own.cell]; rfl) (idx_of (by omega) h1'.2 ?_)
      simp only [add_mk, Nat.zero_add, Nat.add_zero]
      have hlen : i.toNat < a.sp.length := by omega
      refine stC_of ho.spans (by rw [spC_len]; omega) ?_
      have b1 := ho.spans.set (i.toNat * 3) (.int .i64 c)
      rw [spC_set0 hs] at b1
      refine stC_of b1 (by rw [spC_len, List.length_set]; omega) ?_
      have b2 := b1.set (i.toNat * 3 + 1) (.int .u64 0)
      have e2 := spC_set1 (l := a.sp.set i.toNat (c, s.2)) (i := i.toNat) (s := (c, s.2)) (by simp [hlen]) 0
      rw [show (((0 : Nat) : Int)) = 0 from rfl, List.set_set] at e2
      rw [e2] at b2
      refine stC_of b2 (by rw [spC_len, List.length_set]; omega) ?_
      have b3 := b2.set (i.toNat * 3 + 2) (.int .u64 0)
      have e3 := spC_set2 (l := a.sp.set i.toNat (c, 0, s.2.2)) (i := i.toNat) (s := (c, 0, s.2.2)) (by simp [hlen]) 0
      rw [show (((0 : Nat) : Int)) = 0 from rfl, List.set_set] at e3
      rw [e3] at b3
      have hf := ((Fr.set h ⟨B, i.toNat * 3, none⟩ (.int .i64 c)).trans (Fr.set _ ⟨B, i.toNat * 3 + 1, none⟩ (.int .u64 0))).trans (Fr.set _ ⟨B, i.toNat * 3 + 2, none⟩ (.int .u64 0))
      refine hyes h1 hc.1 hc.2 (by rw [hcl]; exact h3) _ hf ?_
      exact ho.sp' hf b3 (by simp) (ho.ok.set ⟨Nat.two_pow_pos 64, Nat.two_pow_pos 64⟩ ⟨by simp only; omega, hc.2⟩)

end
end Go.Proofs.YtkfdbgpegekcfaaGreatDoorP

namespace Go.Proofs.YtkfdbgpegekcfaaGreatDoorP
open Go Go.GL Go.GLM Go.Proofs
attribute [local irreducible] rawV rawN rawU

theorem zero_word (w : World) : (zeroValue 2).run Tryz.prog w = .ok (.int .i64 0) w := by
  obtain ⟨i, hi, hzz⟩ := Option.map_eq_some_iff.1 in_word
  simp only [Prod.mk.injEq] at hzz
  simp [zeroValue, typeInfo, hi, hzz.1]

theorem clear_words {h : H} {b o n c : Nat} {ws : List Int} (hb : Blk h b 2 (ws.map (Value.int .i64 ·))) (hfit : o + n ≤ ws.length) (hn : 0 < n) {K : Value → H → Prop}
    (hk : ∀ h', Fr (· = b) h h' → Blk h' b 2 ((ws.take o ++ List.replicate n 0 ++ ws.drop (o + n)).map (Value.int .i64 ·)) → K (.tuple #[]) h') :
    rawN Tryz.prog (builtin .clear #[28] 0 #[false] #[.slice (some ⟨b, o, none⟩) n c]) h K := by
  refine clear_of (z := .int .i64 0) ty_words zero_word rfl rfl hb (by simpa using hfit) hn fun h' hf hb' => hk h' hf ?_
  simpa using hb'

section
variable {tA tS : TypeId} {h h' : H} {A B W : Nat} {a : Ar}

/-- The arena with the k-th place of a span taken, unmarked, its words nought. -/
def Ar.takeAt (a : Ar) (i : Int) (k : Nat) : Ar :=
  ⟨a.ws.take (i * 64 + k * wds (a.clsAt i)).toNat ++ List.replicate (wds (a.clsAt i)).toNat 0 ++ a.ws.drop ((i * 64 + k * wds (a.clsAt i)).toNat + (wds (a.clsAt i)).toNat),
   a.sp.set i.toNat (a.clsAt i, a.tak i ||| 2 ^ k, a.mrk i ^^^ (a.mrk i &&& 2 ^ k))⟩

theorem arena_Take_C (ho : ArO tA tS 2 h A B W a) (ht : Tab h) {i : Int} {K : Int → Int → H → Prop} (hbad : a.clsAt i = -1 → K 0 4 h)
    (hno : ∀ k : Nat, a.clsAt i ≠ -1 → IsFirst (a.tak i) k → plc (a.clsAt i) ≤ k → K 0 5 h)
    (hyes : ∀ k : Nat, a.clsAt i ≠ -1 → IsFirst (a.tak i) k → (k : Int) < plc (a.clsAt i) → ∀ h', Fr (fun b => b = B ∨ b = W) h h' → ArO tA tS 2 h' A B W (a.takeAt i k) → K (i * 64 + k * wds (a.clsAt i)) 0 h') :
    arena_Arena_Take.C (some ⟨A, 0, none⟩) i h K := by
  refine arena_Arena_Take.of ?_
  unfold arena_Arena_Take.S
  refine arena_Class_C ho (split_of (fun h1 => ?_) fun h1 => ?_)
  · simp at h1; exact hbad h1
  · simp at h1
    have h2 : a.has i = true := by
      cases hh : a.has i
      · exact absurd (show a.clsAt i = -1 by unfold Ar.clsAt; rw [if_neg (by rw [hh]; decide)]) h1
      · rfl
    obtain ⟨s, hs, hmem, hc, htk, hmk⟩ := Ar.at h2
    unfold Ar.has at h2
    simp at h2
    have hb := ho.ok.bits s hmem
    have hcl := ho.ok.cl s hmem
    unfold Ar.takeAt at hyes
    rw [hc] at h1 hno hyes ⊢
    rw [htk] at hno hyes
    rw [hmk] at hyes
    refine ⟨_, rfl, ?_⟩
    simp only [add_mk]
    refine ldL_of (by rw [ho.own.cell]; rfl) (idx_of (by omega) h2.2 ⟨_, rfl, ?_⟩)
    simp only [add_mk, Nat.zero_add, Nat.add_zero]
    refine ldI_of (n := (s.2.1 : Int)) (by rw [ho.spans.cell]; exact (spC_get hs).2.1) (bits_First_C ht hb.1 fun k hk64 hfirst => geom_Places_C (split_of (fun h3 => ?_) fun h3 => ?_))
    · simp at h3; exact hno k h1 hfirst h3
    · simp at h3
      have hplc := plc_bd s.1
      have h2k : (2 : Nat) ^ k < 2 ^ 64 := Nat.pow_lt_pow_right (by omega) (by omega)
      have hmb := mul_bd (p := (k : Int)) (c := s.1) (by omega) h3
      have hwd : 2 ≤ wds s.1 := by
        have h5 : 0 ≤ s.1 ∧ s.1 ≤ 5 := by omega
        clear hyes hno hbad
        rcases cls_cases s.1 with h | h | h | h | h | h | h
        all_goals first | omega | (rw [h]; decide)
      have hlen : i.toNat < a.sp.length := by omega
      have hsm := ho.ok.small
      have hwl := ho.ok.words
      rw [wrapu64_id (by omega) (by omega), shl_one (by omega)]
      refine ⟨_, rfl, ?_⟩
      simp only [add_mk]
      refine ldI_of (n := (s.2.1 : Int)) (by rw [ho.spans.cell]; exact (spC_get hs).2.1) (need_of (by omega) ⟨_, rfl, ?_⟩)
      simp only [add_mk, Nat.add_zero]
      rw [bitsI_or hb.1 h2k]
      refine stC_of ho.spans (by rw [spC_len]; omega) ⟨_, rfl, ?_⟩
      have b1 := ho.spans.set (i.toNat * 3 + 1) (.int .u64 ((s.2.1 ||| 2 ^ k : Nat) : Int))
      rw [spC_set1 hs] at b1
      have hs1 : (a.sp.set i.toNat (s.1, s.2.1 ||| 2 ^ k, s.2.2))[i.toNat]? = some (s.1, s.2.1 ||| 2 ^ k, s.2.2) := by simp [hlen]
      simp only [add_mk]
      refine ldI_of (n := (s.2.2 : Int)) (by rw [b1.cell]; exact (spC_get hs1).2.2) (need_of (by omega) ⟨_, rfl, ?_⟩)
      simp only [add_mk, Nat.add_zero]
      rw [bitsI_andNot hb.2 h2k]
      refine stC_of b1 (by rw [spC_len, List.length_set]; omega) ?_
      have b2 := b1.set (i.toNat * 3 + 2) (.int .u64 ((s.2.2 ^^^ (s.2.2 &&& 2 ^ k) : Nat) : Int))
      rw [spC_set2 hs1, List.set_set] at b2
      have hf := (Fr.set h ⟨B, i.toNat * 3 + 1, none⟩ (.int .u64 ((s.2.1 ||| 2 ^ k : Nat) : Int))).trans (Fr.set _ ⟨B, i.toNat * 3 + 2, none⟩ (.int .u64 ((s.2.2 ^^^ (s.2.2 &&& 2 ^ k) : Nat) : Int)))
      have ho2 := ho.sp' hf b2 (by simp) (ho.ok.set ⟨Nat.or_lt_two_pow hb.1 h2k, Nat.xor_lt_two_pow hb.2 (Nat.lt_of_le_of_lt Nat.and_le_left hb.2)⟩ hcl)
      generalize setC (setC h ⟨B, i.toNat * 3 + 1, none⟩ _) ⟨B, i.toNat * 3 + 2, none⟩ _ = g2 at *
      refine geom_Addr_C ⟨_, rfl, ?_⟩
      have ead : adr i k s.1 = i * 64 + k * wds s.1 := by unfold adr; rw [if_neg (by omega)]
      rw [ead]
      simp only [add_mk]
      refine ldL_of (by rw [ho2.own.cell]; rfl) (geom_Words_C ⟨ldL_of (by rw [ho2.own.cell]; rfl) rfl, ?_⟩)
      rw [wrap64_id (by omega) (by omega)]
      refine ⟨(i * 64 + k * wds s.1).toNat, (i * 64 + k * wds s.1).toNat + (wds s.1).toNat, by simp only; omega, by simp only; omega, by omega, by show _ ≤ a.ws.length; omega, ?_⟩
      have hfit : (i * 64 + k * wds s.1).toNat + (wds s.1).toNat ≤ a.ws.length := by omega
      have hpos : 0 < (wds s.1).toNat := by omega
      have hto : ((i * 64 + k * wds s.1).toNat : Int) = i * 64 + k * wds s.1 := by omega
      rw [Nat.add_sub_cancel_left]
      have hne : ¬ a.ws.length = (i * 64 + k * wds s.1).toNat := by omega
      have esl : slcBase (some ⟨W, 0, none⟩) a.ws.length (i * 64 + k * wds s.1).toNat 1 = some ⟨W, (i * 64 + k * wds s.1).toNat, none⟩ := by
        unfold slcBase
        rw [if_neg hne, Option.map_some, add_mk, Nat.zero_add, Nat.mul_one]
      refine Eq.mpr (congrArg (fun q => rawN _ (builtin .clear #[28] 0 #[false] #[.slice q (wds s.1).toNat _]) g2 _) esl) ?_
      refine clear_words ho2.words hfit hpos fun h' hf' hb' => ⟨rfl, ?_⟩
      have hl' : (a.ws.take (i * 64 + k * wds s.1).toNat ++ List.replicate (wds s.1).toNat 0 ++ a.ws.drop ((i * 64 + k * wds s.1).toNat + (wds s.1).toNat)).length = a.ws.length := by
        rw [List.length_append, List.length_append, List.length_take, List.length_replicate, List.length_drop]; omega
      have ho3 := ho2.ws' hf' hb' hl'
      refine need_of (ldL_of (by rw [ho3.own.cell, hl']; rfl) rfl) ?_
      have hff := (hf.mono (S' := fun b => b = B ∨ b = W) fun x hx => .inl hx).trans (hf'.mono fun x hx => .inr hx)
      exact hyes k h1 hfirst h3 h' hff ho3

end
end Go.Proofs.YtkfdbgpegekcfaaGreatDoorP

namespace Go.Proofs.YtkfdbgpegekcfaaGreatDoorP
open Go Go.GL Go.GLM Go.Proofs
attribute [local irreducible] rawV rawN rawU

theorem ty_bools : Tryz.prog.underlying 161 = some (.slice 4) := by kernel_rfl
theorem in_bool : (Tryz.prog.info? 4).map (fun i => (i.zero, i.size, i.bytes)) = some (some (.bool false), 1, 1) := by kernel_rfl

theorem make_bools {P : Program} (hP : P = Tryz.prog) {h : H} {n : Nat} (hn : n ≤ 100000) {K : Value → H → Prop}
    (hk : K (.slice (some ⟨h.size, 0, none⟩) n n) (h.push (.cells (madeCells (Value.bool false).cells (n * 1)) 4))) :
    rawV P (Instr.makeSlice 161 (.int .i64 (n : Int)) (.int .i64 (n : Int))) h K := by
  have := make_of (P := P) (K := K) (h := h) (by rw [hP]; exact ty_bools) (by rw [hP]; exact in_bool) (n := (n : Int)) (by omega) (by omega) (by omega)
  rw [Int.toNat_natCast] at this
  exact this hk

theorem made_bools (n : Nat) : (madeCells (Value.bool false).cells (n * 1)).toList = List.replicate n (Value.bool false) := by
  rw [show (Value.bool false).cells = #[Value.bool false] from rfl, toList_madeCells_one, Nat.mul_one]

/-- An allocator on the heap: its own block, its marks of stale spans, its arena. -/
structure AlO (h : H) (L S A : Nat) (n : Nat) : Prop where
  own : Blk h L 163 [.pointer (some ⟨A, 0, none⟩), .slice (some ⟨S, 0, none⟩) n n]
  stale : Blk h S 4 (List.replicate n (.bool false))

theorem AlO.fr {F : Nat → Prop} {h h' : H} {L S A n : Nat} (ho : AlO h L S A n) (hf : Fr F h h') (hL : ¬ F L) (hS : ¬ F S) : AlO h' L S A n :=
  ⟨hf.blk ho.own hL, hf.blk ho.stale hS⟩

theorem alloc_New_C {tA tS tW : TypeId} {h : H} {A B W : Nat} {a : Ar} (ho : ArO tA tS tW h A B W a) {K : Option Addr → H → Prop}
    (hk : ∀ h' L S, Fr noB h h' → h.size ≤ L → h.size ≤ S → AlO h' L S A a.sp.length → K (some ⟨L, 0, none⟩) h') : alloc_New.C (some ⟨A, 0, none⟩) h K := by
  refine alloc_New.of ?_
  unfold alloc_New.S
  have hsm := ho.ok.small
  refine arena_Spans_C ho (make_bools rfl (by omega) ⟨_, _, _, rfl, ?_⟩)
  have b1 := Blk.newA h 4 (madeCells (Value.bool false).cells (a.sp.length * 1))
  rw [made_bools] at b1
  have f1 := Fr.push h (.cells (madeCells (Value.bool false).cells (a.sp.length * 1)) 4)
  have s1 : (h.push (.cells (madeCells (Value.bool false).cells (a.sp.length * 1)) 4)).size = h.size + 1 := Array.size_push _
  generalize h.push (.cells (madeCells (Value.bool false).cells (a.sp.length * 1)) 4) = g1 at *
  refine newC_of ?_
  have b2 := Blk.new g1 163 [.pointer (some ⟨A, 0, none⟩), .slice (some ⟨h.size, 0, none⟩) a.sp.length a.sp.length]
  have f2 := Fr.push g1 (.cells ⟨[.pointer (some ⟨A, 0, none⟩), .slice (some ⟨h.size, 0, none⟩) a.sp.length a.sp.length]⟩ 163)
  exact hk _ g1.size h.size (f1.trans f2) (by omega) (by omega) ⟨b2, f2.blk b1 (fun h => h)⟩

end Go.Proofs.YtkfdbgpegekcfaaGreatDoorP

namespace Go.Proofs.YtkfdbgpegekcfaaGreatDoorP
open Go Go.GL Go.GLM Go.Proofs
attribute [local irreducible] rawV rawN rawU

theorem replicate_set {α : Type} (n i : Nat) (x : α) : (List.replicate n x).set i x = List.replicate n x := by
  refine List.ext_getElem? fun j => ?_
  rw [List.getElem?_set]
  by_cases h : i = j
  · subst h
    rw [if_pos rfl, List.length_replicate, List.getElem?_replicate]
  · rw [if_neg h]

theorem alloc_begin_C {tA tS : TypeId} {h : H} {A B W L S n : Nat} {a : Ar} (ho : ArO tA tS 2 h A B W a) (ht : Tab h) (hT : B ≠ 0 ∧ S ≠ 0) (hal : AlO h L S A n) (hne : A ≠ S ∧ B ≠ S ∧ W ≠ S ∧ L ≠ B ∧ L ≠ W) (hn : n = a.sp.length)
    {i c : Int} (hi : 1 ≤ i ∧ i < n) (hc : 0 ≤ c ∧ c ≤ 5) (hfree : a.clsAt i = -1) {K : Int → Int → H → Prop}
    (hk : ∀ h', Fr (fun b => b = B ∨ b = W ∨ b = S) h h' → ArO tA tS 2 h' A B W ((a.setAt i c).takeAt i 0) → AlO h' L S A n → K (i * 64) 0 h') : alloc_Alloc_begin.C (some ⟨L, 0, none⟩) i c h K := by
  refine alloc_Alloc_begin.of ?_
  unfold alloc_Alloc_begin.S
  refine ⟨_, rfl, ?_⟩
  simp only [add_mk]
  refine ldL_of (by rw [hal.own.cell]; rfl) (idx_of (by omega) hi.2 ?_)
  simp only [add_mk, Nat.zero_add, Nat.add_zero, Nat.mul_one]
  refine stC_of hal.stale (by rw [List.length_replicate]; omega) ?_
  have b1 := hal.stale.set i.toNat (.bool false)
  rw [replicate_set] at b1
  have f1 := Fr.set h ⟨S, i.toNat, none⟩ (.bool false)
  have hLS : L ≠ S := hal.own.ne hal.stale (by decide)
  have ho1 := ho.fr f1 hne.1 hne.2.1 hne.2.2.1
  have hal1 : AlO _ L S A n := ⟨f1.blk hal.own hLS, b1⟩
  have ht1 := ht.fr f1 (fun h => hT.2 h.symm)
  generalize setC h ⟨S, i.toNat, none⟩ (.bool false) = g1 at *
  refine ⟨_, rfl, ?_⟩
  simp only [add_mk]
  refine ldP_of (by rw [hal1.own.cell]; rfl) ?_
  have hhas : a.has i = true := by unfold Ar.has; rw [decide_eq_true (by omega)]
  refine arena_Set_C ho1 (fun h => ?_) (fun _ _ _ h => absurd hfree h) fun _ _ _ _ g2 f2 ho2 => ?_
  · rcases h with h | h
    · rw [hhas] at h; cases h
    · omega
  have hal2 := hal1.fr f2 hne.2.2.2.1 hne.2.1.symm
  have ht2 := ht1.fr f2 (fun h => hT.1 h.symm)
  refine ⟨_, rfl, ?_⟩
  simp only [add_mk]
  refine ldP_of (by rw [hal2.own.cell]; rfl) ?_
  have hlen : i.toNat < a.sp.length := by omega
  have hcl : (a.setAt i c).clsAt i = c := by
    unfold Ar.clsAt Ar.has Ar.setAt
    rw [if_pos (by simp; omega)]
    simp [hlen]
  have htk : (a.setAt i c).tak i = 0 := by unfold Ar.tak Ar.setAt; simp [hlen]
  have hfirst : IsFirst 0 0 := ⟨by simp, fun j h => absurd h (by omega)⟩
  refine arena_Take_C ho2 ht2 (fun h => ?_) (fun k _ hf hp => ?_) fun k _ hf hp g3 f3 ho3 => ?_
  · rw [hcl] at h; omega
  · rw [htk] at hf
    have := hf.unique hfirst
    subst this
    rw [hcl] at hp
    have : 1 ≤ plc c := by
      rcases cls_cases c with h | h | h | h | h | h | h
      all_goals first | omega | (rw [h]; decide)
    omega
  · rw [htk] at hf
    have := hf.unique hfirst
    subst this
    have e : i * 64 + ((0 : Nat) : Int) * wds ((a.setAt i c).clsAt i) = i * 64 := by simp
    rw [e]
    refine hk g3 (((f1.mono fun x hx => .inr (.inr hx)).trans (f2.mono fun x hx => .inl hx)).trans (f3.mono fun x hx => ?_)) ho3 (hal2.fr f3 (fun h => ?_) fun h => ?_)
    · rcases hx with h | h
      · exact .inl h
      · exact .inr (.inl h)
    · rcases h with h | h
      · exact hne.2.2.2.1 h
      · exact hne.2.2.2.2 h
    · rcases h with h | h
      · exact hne.2.1 h.symm
      · exact hne.2.2.1 h.symm

end Go.Proofs.YtkfdbgpegekcfaaGreatDoorP

namespace Go.Proofs.YtkfdbgpegekcfaaGreatDoorP
open Go Go.GL Go.GLM Go.Proofs
attribute [local irreducible] rawV rawN rawU

/-- A span of the class that is not full. -/
def Ar.roomy (a : Ar) (c i : Int) : Prop := a.clsAt i = c ∧ (a.tak i : Int) ≠ ((2 ^ (plc c).toNat - 1 : Nat) : Int)

section
variable {tA tS : TypeId} {h : H} {A B W L S n : Nat} {a : Ar}

theorem alloc_Take_C (ho : ArO tA tS 2 h A B W a) (hal : AlO h L S A n) (hn : n = a.sp.length)
    {w : Int} {K : Int → Int → H → Prop} (hbad : cls w = -1 → K 0 1 h)
    (hold : ∀ i : Int, cls w ≠ -1 → 0 ≤ i → i < n → a.roomy (cls w) i → (∀ j, 0 ≤ j → j < i → ¬ a.roomy (cls w) j) → arena_Arena_Take.C (some ⟨A, 0, none⟩) i h K)
    (hnew : ∀ i : Int, cls w ≠ -1 → 1 ≤ i → i < n → a.clsAt i = -1 → (∀ j : Int, 0 ≤ j → j < n → ¬ a.roomy (cls w) j) → (∀ j, 1 ≤ j → j < i → a.clsAt j ≠ -1) → alloc_Alloc_begin.C (some ⟨L, 0, none⟩) i (cls w) h K)
    (hfull : cls w ≠ -1 → (∀ j : Int, 0 ≤ j → j < n → ¬ a.roomy (cls w) j) → (∀ j : Int, 1 ≤ j → j < n → a.clsAt j ≠ -1) → K 0 5 h) : alloc_Alloc_Take.C (some ⟨L, 0, none⟩) w h K := by
  have hsm := ho.ok.small
  refine alloc_Alloc_Take.of ?_
  unfold alloc_Alloc_Take.S joinP
  refine geom_Class_C (split_of (fun h1 => ?_) fun h1 => ?_)
  · simp at h1; exact hbad h1
  simp at h1
  refine ⟨_, rfl, ?_⟩
  simp only [add_mk]
  refine ldL_of (by rw [hal.own.cell]; rfl) ?_
  refine loop_of (fun s h' => h' = h ∧ 0 ≤ s.1 ∧ s.1 ≤ n ∧ ∀ j, 0 ≤ j → j < s.1 → ¬ a.roomy (cls w) j) (fun s _ => (n - s.1).toNat) ⟨rfl, by simp, by simp, fun j h0 h1 => by simp at h1; omega⟩ ?_
  rintro ⟨i, _⟩ h' ⟨rfl, h0, hin, hall⟩
  simp only at h0 hin hall ⊢
  refine split_of (fun h2 => ?_) fun h2 => ?_
  · simp at h2
    have next : ¬ a.roomy (cls w) i → (∀ j, 0 ≤ j → j < i + 1 → ¬ a.roomy (cls w) j) := fun hr j hj0 hj => by
      by_cases e : j = i
      · subst e; exact hr
      · exact hall j hj0 (by omega)
    rw [wrap64_id (by omega) (by omega)]
    refine ⟨_, rfl, ?_⟩
    simp only [add_mk]
    refine ldP_of (by rw [hal.own.cell]; rfl) (arena_Class_C ho (split_of (fun h3 => ?_) fun h3 => ?_))
    · simp at h3
      exact ⟨⟨rfl, by omega, by omega, next fun hr => h3 hr.1⟩, by omega⟩
    · simp at h3
      refine ⟨_, rfl, ?_⟩
      simp only [add_mk]
      refine ldL_of (by rw [hal.own.cell]; rfl) (idx_of h0 h2 ?_)
      simp only [Nat.zero_add, Nat.mul_one]
      refine ldB_of (b := false) (by rw [hal.stale.cell, List.getElem?_replicate, if_pos (by omega)]) (split_false ⟨_, rfl, ?_⟩)
      simp only [add_mk]
      refine ldP_of (by rw [hal.own.cell]; rfl) (arena_Class_C ho (split_of (fun h4 => ?_) fun h4 => ?_))
      · refine ⟨_, rfl, ?_⟩
        simp only [add_mk]
        refine ldP_of (by rw [hal.own.cell]; rfl) (arena_Taken_C ho (geom_Full_C (split_of (fun h5 => ?_) fun h5 => ?_)))
        · refine ⟨_, rfl, ?_⟩
          simp only [add_mk]
          refine ldP_of (by rw [hal.own.cell]; rfl) (hold i h1 h0 h2 ⟨h3, ?_⟩ hall)
          rw [h3, if_neg h1] at h5
          exact bne_iff_ne.1 h5
        · rw [h3, if_neg h1] at h5
          exact ⟨⟨rfl, by omega, by omega, next fun hr => hr.2 (by simpa using h5)⟩, by omega⟩
      · simp at h4; exact absurd h3 h4
  · simp at h2
    have hall : ∀ j : Int, 0 ≤ j → j < n → ¬ a.roomy (cls w) j := fun j hj0 hj => hall j hj0 (by omega)
    refine loop_of (fun s h'' => h'' = h' ∧ 1 ≤ s.1 ∧ (s.1 ≤ n ∨ n = 0) ∧ ∀ j, 1 ≤ j → j < s.1 → a.clsAt j ≠ -1) (fun s _ => (n - s.1).toNat) ⟨rfl, by simp, by simp; omega, fun j hj0 hj1 => by simp at hj1; omega⟩ ?_
    rintro ⟨i, _⟩ h'' ⟨rfl, h0, hin, hno⟩
    simp only at h0 hin hno ⊢
    refine ⟨_, rfl, ?_⟩
    simp only [add_mk]
    refine ldL_of (by rw [hal.own.cell]; rfl) (split_of (fun h3 => ?_) fun h3 => ?_)
    · simp at h3
      rw [wrap64_id (by omega) (by omega)]
      refine ⟨_, rfl, ?_⟩
      simp only [add_mk]
      refine ldP_of (by rw [hal.own.cell]; rfl) (arena_Class_C ho (split_of (fun h4 => ?_) fun h4 => ?_))
      · simp at h4
        exact hnew i h1 h0 h3 h4 hall hno
      · simp at h4
        refine ⟨⟨rfl, by omega, by omega, fun j hj0 hj => ?_⟩, by omega⟩
        by_cases e : j = i
        · subst e; exact h4
        · exact hno j hj0 (by omega)
    · simp at h3
      refine ⟨_, rfl, ?_⟩
      simp only [add_mk]
      refine ldL_of (by rw [hal.own.cell]; rfl) ?_
      refine loop_of (fun s g => g = h'' ∧ (0 : Int) ≤ s.1 ∧ s.1 ≤ (n : Int)) (fun s _ => (n - s.1).toNat) ⟨rfl, by simp, by simp⟩ ?_
      rintro ⟨j, _⟩ g ⟨rfl, hj0, hjn⟩
      simp only at hj0 hjn ⊢
      refine split_of (fun h4 => ?_) fun h4 => ?_
      · simp at h4
        refine idx_of hj0 h4 ?_
        simp only [Nat.zero_add, Nat.mul_one]
        refine ldB_of (b := false) (by rw [hal.stale.cell, List.getElem?_replicate, if_pos (by omega)]) (split_false ?_)
        rw [wrap64_id (by omega) (by omega)]
        exact ⟨⟨by first | rfl | trivial, by omega, by omega⟩, by omega⟩
      · exact hfull h1 hall fun j hj0 hj => hno j hj0 (by omega)

end
end Go.Proofs.YtkfdbgpegekcfaaGreatDoorP

namespace Go.Proofs.YtkfdbgpegekcfaaGreatDoorP
open Go Go.GL Go.GLM Go.Proofs
attribute [local irreducible] rawV rawN rawU

/-- A queue on the heap, what it holds, and that its row is not below base. -/
structure QuO (h : H) (base Q : Nat) (xs : List Int) : Prop where
  row : ∃ p c, Blk h Q 174 [.slice p xs.length c] ∧ OwnO h base 2 1 p xs.length c (xs.map (Value.int .i64 ·)) ∧ (∀ b, blkOf p b → b ≠ Q)

theorem grey_New_C {h : H} {base : Nat} {K : Option Addr → H → Prop} (hk : ∀ h', Fr noB h h' → QuO h' base h.size [] → K (some ⟨h.size, 0, none⟩) h') : grey_New.C h K := by
  refine grey_New.of ?_
  unfold grey_New.S
  exact newC_of (hk _ (Fr.push h _) ⟨none, 0, Blk.new h 174 [.slice none 0 0], OwnO.nil _ _ _ _, fun b hb => by obtain ⟨a, ha, _⟩ := hb; cases ha⟩)

theorem grey_Len_C {h : H} {base Q : Nat} {xs : List Int} (ho : QuO h base Q xs) {K : Int → H → Prop} (hk : K (xs.length : Int) h) : grey_Queue_Len.C (some ⟨Q, 0, none⟩) h K := by
  refine grey_Queue_Len.of ?_
  unfold grey_Queue_Len.S
  obtain ⟨p, c, hb, _, _⟩ := ho.row
  refine ⟨_, rfl, ?_⟩
  simp only [add_mk]
  exact ldL_of (by rw [hb.cell]; rfl) hk

theorem int_one : (Value.int .i64 0).cells.size = 1 := rfl

/-- Where a queue may turn: its own block, its row's. -/
theorem grey_Add_C {h : H} {base Q : Nat} {xs : List Int} {x : Int} (ho : QuO h base Q xs) (hbase : base ≤ h.size) (hlen : xs.length ≤ 1000000) {K : H → Prop}
    (hk : ∀ h' S, Fr S h h' → (∀ b, S b → b = Q ∨ base ≤ b ∧ ∃ cur, h[b]? = some (.cells cur 2 (0, 0))) → QuO h' base Q (xs ++ [x]) → K h') : grey_Queue_Add.C (some ⟨Q, 0, none⟩) x h K := by
  refine grey_Queue_Add.of ?_
  unfold grey_Queue_Add.S
  obtain ⟨p, c, hb, hrow, hne⟩ := ho.row
  refine ⟨_, rfl, ?_⟩
  simp only [add_mk]
  refine ldL_of (by rw [hb.cell]; rfl) (newC_of ?_)
  have f1 := Fr.push h (.cells ⟨[.int .i64 x]⟩ 2)
  have b1 := Blk.new h 2 [.int .i64 x]
  have hb' := f1.blk hb (fun h => h)
  have hrow' := hrow.fr f1 (fun _ _ h => h)
  have hsz : h.size < (h.push (.cells ⟨[.int .i64 x]⟩ 2)).size := by rw [Array.size_push]; omega
  generalize h.push (.cells ⟨[.int .i64 x]⟩ 2) = g1 at *
  refine appendO_of ty_words in_word int_one (by decide) hrow' (by omega) (news := [.int .i64 x]) (m := 1) rfl ?_ (by intro u hu; rw [List.mem_singleton.1 hu]; rfl) (by simp only [maxLen]; omega) (by omega) fun p' c' g2 ho2 f2 => ⟨_, _, _, rfl, ?_⟩
  · intro j u hu
    rw [add_mk, b1.cell, Nat.zero_add]
    exact hu
  · have hb2 := f2.blk hb' (fun h => hne Q h rfl)
    refine ⟨_, rfl, ?_⟩
    simp only [add_mk, Nat.add_zero]
    refine stC_of hb2 (by simp) ?_
    have hb3 := hb2.set 0 (.slice p' (xs.length + 1) c')
    have f3 := Fr.set g2 ⟨Q, 0, none⟩ (.slice p' (xs.length + 1) c')
    have hne' : ∀ b, blkOf p' b → b ≠ Q := by
      rintro b ⟨ad, rfl, rfl⟩ rfl
      rcases ho2.2 with ⟨h0, _⟩ | ⟨g, o, cur, he, h1, h2, _⟩
      · cases h0
      · simp only [Option.some.injEq] at he
        subst he
        unfold Blk at hb2
        rw [h2] at hb2
        simp at hb2
    refine hk _ (fun b => b = Q ∨ blkOf p b) (((f1.mono fun x hx => hx.elim).trans (f2.mono fun x hx => .inr hx)).trans (f3.mono fun x hx => .inl hx)) (fun b hbb => ?_) ⟨p', c', ?_, ?_, hne'⟩
    · rcases hbb with h | ⟨ad, rfl, rfl⟩
      · exact .inl h
      · rcases hrow.2 with ⟨h0, _⟩ | ⟨g, o, cur, he, h1, h2, _⟩
        · cases h0
        · simp only [Option.some.injEq] at he
          subst he
          exact .inr ⟨h1, cur, h2⟩
    · rw [List.length_append]; exact hb3
    · have := ho2.fr f3 (fun b hbb h => hne' b hbb h)
      simpa using this

theorem grey_Next_C {h : H} {base Q : Nat} {xs : List Int} (ho : QuO h base Q xs) {K : Int → Bool → H → Prop} (hnil : xs = [] → K 0 false h)
    (hcons : ∀ x r, xs = x :: r → ∀ h', Fr (· = Q) h h' → QuO h' base Q r → K x true h') : grey_Queue_Next.C (some ⟨Q, 0, none⟩) h K := by
  refine grey_Queue_Next.of ?_
  unfold grey_Queue_Next.S
  obtain ⟨p, c, hb, hrow, hne⟩ := ho.row
  refine ⟨_, rfl, ?_⟩
  simp only [add_mk]
  refine ldL_of (by rw [hb.cell]; rfl) ?_
  cases xs with
  | nil => exact split_true (hnil rfl)
  | cons x r =>
    refine split_neg (beq_eq_false_iff_ne.2 (by simp only [List.length_cons]; omega)) ⟨_, rfl, ?_⟩
    simp only [add_mk]
    refine ldL_of (by rw [hb.cell]; rfl) ?_
    rcases hrow.2 with ⟨_, _, h0⟩ | ⟨g, o, cur, rfl, h1, h2, h3, h4, h5, h6⟩
    · simp at h0
    · refine idx_of (by decide) (by simp only [List.length_cons]; omega) ?_
      have hx := hrow.cell (j := 0) (by simp)
      simp only [Nat.add_zero] at hx
      rw [show (0 : Int).toNat * 1 = 0 from rfl, Nat.add_zero]
      refine ldI_of (n := x) (by rw [hx]; rfl) ⟨_, rfl, ?_⟩
      simp only [add_mk]
      refine ldL_of (by rw [hb.cell]; rfl) ⟨1, (x :: r).length, rfl, rfl, by simp, h3, ?_⟩
      refine ⟨_, rfl, ?_⟩
      simp only [add_mk, Nat.add_zero]
      refine stC_of hb (by simp) ?_
      have hrow' : OwnO h base 2 1 (some ⟨g, o, none⟩) (r.length + 1) c (Value.int .i64 x :: r.map (Value.int .i64 ·)) := hrow
      have ht := hrow'.tail
      have ht2 : OwnO h base 2 1 (slcBase (some ⟨g, o, none⟩) c 1 1) r.length (c - 1) (r.map (Value.int .i64 ·)) := by
        unfold slcBase
        by_cases hc : c = 1
        · rw [if_pos hc]
          have : r = [] := by
            rw [hc, List.length_cons] at h3; exact List.length_eq_zero_iff.1 (by omega)
          subst this
          subst hc
          exact ⟨rfl, .inr ⟨g, o, cur, rfl, h1, h2, by simp, by simp, by omega, by simp⟩⟩
        · rw [if_neg hc, Option.map_some, add_mk]
          exact ht
      have hne2 : ∀ b, blkOf (slcBase (some ⟨g, o, none⟩) c 1 1) b → b ≠ Q := by
        rintro b ⟨ad, ha, rfl⟩
        refine hne _ ⟨⟨g, o, none⟩, rfl, ?_⟩
        unfold slcBase at ha
        by_cases hc : c = 1
        · rw [if_pos hc] at ha; cases ha; rfl
        · rw [if_neg hc, Option.map_some, add_mk] at ha; cases ha; rfl
      have f3 := Fr.set h ⟨Q, 0, none⟩ (.slice (slcBase (some ⟨g, o, none⟩) c 1 1) ((x :: r).length - 1) (c - 1))
      refine hcons x r rfl _ f3 ⟨_, _, hb.set 0 _, ht2.fr f3 (fun b hbb h => hne2 b hbb h), hne2⟩

end Go.Proofs.YtkfdbgpegekcfaaGreatDoorP

/-
  Places taken, plainly (M3): no program here.
  The allocator as a part of the heap (W1).
  The reference's arena goes along with the program's (M4): no program here.
  The reference's allocator goes along (W2).
  The world of statement layer 7 (W3): sizes, shapes, a word put in both.
  The world of statement layer 7 (W4): a thing's fields are filled.
  The world of statement layer 7 (W5): all things are filled.
  What the allocator leaves as it was (M5): no program here.
  The world of statement layer 7 (W6): the places taken.
  The world of statement layer 7 (W7).
  What the document tells of two objects (AW).
  Marking, plainly (M6): no program here.
  What a world of statement layer 7 is like (M7): no program here.
  MarkAll (MA): stepped till nothing is grey, just what is reached from what was shaded is marked.
-/
import Derived.Test.YtkfdbgpegekcfaaGreatDoorXe

namespace Go.Proofs.YtkfdbgpegekcfaaGreatDoorP
open Go Go.GL Go.GLM Go.Proofs

/-- The first bit that is not set. -/
def firstZ (m : Nat) : Nat := ((List.range 65).find? fun k => !m.testBit k).getD 64

theorem firstZ_spec {m : Nat} (hm : m < 2 ^ 64) : IsFirst m (firstZ m) ∧ firstZ m ≤ 64 := by
  unfold firstZ
  have hb : m.testBit 64 = false := Nat.testBit_lt_two_pow hm
  cases h : (List.range 65).find? fun k => !m.testBit k with
  | none =>
    rw [List.find?_eq_none] at h
    have := h 64 (by simp)
    simp [hb] at this
  | some k =>
    obtain ⟨h1, j, hj, h2, h3⟩ := List.find?_eq_some_iff_getElem.1 h
    simp at h2 hj
    subst h2
    refine ⟨⟨by simpa using h1, fun i hi => ?_⟩, by show j ≤ 64; omega⟩
    have := h3 i hi
    simpa using this

/-- What is taken lies among a class' places; a span without a class has nothing. -/
def Ar.Good (a : Ar) : Prop := ∀ s ∈ a.sp, s.2.1 < 2 ^ (plc s.1).toNat

theorem Ar.Good.at {a : Ar} (hg : a.Good) {i : Int} (hi : a.has i = true) : a.tak i < 2 ^ (plc (a.clsAt i)).toNat := by
  obtain ⟨s, hs, hm, h1, h2, h3⟩ := Ar.at hi
  rw [h1, h2]
  exact hg s hm

theorem low_full {m n : Nat} (hm : m < 2 ^ n) (h : ∀ k, k < n → m.testBit k = true) : m = 2 ^ n - 1 := by
  refine Nat.eq_of_testBit_eq fun k => ?_
  rw [Nat.testBit_two_pow_sub_one]
  by_cases hk : k < n
  · rw [h k hk, decide_eq_true hk]
  · rw [decide_eq_false hk]
    exact Nat.testBit_lt_two_pow (Nat.lt_of_lt_of_le hm (Nat.pow_le_pow_right (by omega) (by omega)))

theorem full_low {n k : Nat} (h : k < n) : (2 ^ n - 1).testBit k = true := by
  rw [Nat.testBit_two_pow_sub_one, decide_eq_true h]

/-- A span that has room has a first free place. -/
theorem Ar.Good.room {a : Ar} (hg : a.Good) {i : Int} (hi : a.has i = true) (hr : a.tak i ≠ 2 ^ (plc (a.clsAt i)).toNat - 1) : (firstZ (a.tak i) : Int) < plc (a.clsAt i) := by
  have h1 := hg.at hi
  have hp := plc_bd (a.clsAt i)
  have h64 : a.tak i < 2 ^ 64 := Nat.lt_of_lt_of_le h1 (Nat.pow_le_pow_right (by omega) (by omega))
  have hf := (firstZ_spec h64).1
  refine Classical.byContradiction fun hn => hr (low_full h1 fun k hk => hf.2 k (by omega))

/-- The address of a place, and back. -/
theorem is_adr {a : Ar} (hs : a.sp.length ≤ 512) {s p : Int} (hi : a.has s = true) (hp0 : 0 ≤ p) (hp : p < plc (a.clsAt s)) : a.is (s * 64 + p * wds (a.clsAt s)) = (a.tak s).testBit p.toNat := by
  have hm := mul_bd hp0 hp
  have hh := hi
  unfold Ar.has at hh
  simp at hh
  generalize hc : a.clsAt s = c at *
  have hw : 0 < wds c := by
    have h5 : 0 ≤ c ∧ c ≤ 5 := by
      rcases cls_cases c with h | h | h | h | h | h | h
      all_goals first | omega | (rw [plc_bad h] at hp; omega)
    rcases cls_cases c with h | h | h | h | h | h | h
    all_goals first | omega | (rw [h]; decide)
  have hspn : spn (s * 64 + p * wds c) = s := by
    unfold spn
    rw [if_neg (by omega)]
    omega
  have hpl : a.place (s * 64 + p * wds c) = p := by
    unfold Ar.place plOf
    rw [hspn, hc, if_neg (by omega), if_neg (by omega)]
    have e : (s * 64 + p * wds c) % 64 = p * wds c := by omega
    rw [e, Int.mul_emod_left, if_neg (by simp), Int.mul_ediv_cancel _ (by omega)]
  unfold Ar.is
  rw [hpl, hspn, decide_eq_true hp0, Bool.true_and]

/-- What is an object is a place's address. -/
theorem is_place {a : Ar} {x : Int} (h : a.is x = true) : ∃ s p, a.has s = true ∧ 0 ≤ p ∧ p < 64 ∧ spn x = s ∧ a.place x = p ∧ x = s * 64 + p * wds (a.clsAt s) ∧ (a.tak s).testBit p.toNat = true ∧ 0 ≤ a.clsAt s ∧ a.clsAt s ≤ 5 := by
  unfold Ar.is at h
  simp at h
  obtain ⟨h0, h1⟩ := h
  obtain ⟨h2, h3, h4, h5⟩ := Ar.place_has h0
  refine ⟨spn x, a.place x, h2, h0, h3, rfl, rfl, ?_, h1, h4, h5⟩
  have hp := plOf_in (p := x) (c := a.clsAt (spn x)) h0
  have h0' := h0
  unfold Ar.place plOf at h0' ⊢
  have hw : wds (a.clsAt (spn x)) ≠ 0 := by
    generalize a.clsAt (spn x) = c at *
    rcases cls_cases c with h | h | h | h | h | h | h
    all_goals first | omega | (rw [h]; decide)
  have hs : spn x ≠ -1 := by rw [hp.2.2.1]; omega
  rw [if_neg hw, if_neg hs] at h0' ⊢
  by_cases h5 : x % 64 % wds (a.clsAt (spn x)) ≠ 0
  · rw [if_pos h5] at h0'; omega
  · rw [if_neg h5]
    have := Int.ediv_mul_cancel (Int.dvd_of_emod_eq_zero (Classical.not_not.1 h5))
    rw [this, hp.2.2.1]
    omega

/-! ### A place is taken -/

theorem takeAt_cls (a : Ar) (i : Int) (k : Nat) (hi : a.has i = true) (j : Int) : (a.takeAt i k).clsAt j = a.clsAt j := by
  have hl : (a.takeAt i k).sp.length = a.sp.length := by simp [Ar.takeAt]
  obtain ⟨s, hs, _, hc, _, _⟩ := Ar.at hi
  unfold Ar.has at hi
  simp at hi
  unfold Ar.clsAt Ar.has
  rw [hl]
  by_cases hj : decide (1 ≤ j ∧ j < (a.sp.length : Int)) = true
  · rw [if_pos hj, if_pos hj]
    simp only [Ar.takeAt]
    by_cases e : i.toNat = j.toNat
    · rw [e, List.getElem?_set_self (by simp at hj; omega)]
      rw [← e, hs, Option.map_some, Option.map_some]
      exact hc
    · rw [List.getElem?_set_ne e]
  · rw [if_neg hj, if_neg hj]

theorem takeAt_tak (a : Ar) (i : Int) (k : Nat) (hi : a.has i = true) (j : Int) (hj : 0 ≤ j) : (a.takeAt i k).tak j = if j = i then a.tak i ||| 2 ^ k else a.tak j := by
  unfold Ar.has at hi
  simp at hi
  by_cases e : j = i
  · subst e
    rw [if_pos rfl]
    have hl : j.toNat < a.sp.length := by omega
    unfold Ar.tak Ar.takeAt
    rw [List.getElem?_set_self hl]
    rfl
  · rw [if_neg e]
    unfold Ar.tak Ar.takeAt
    rw [List.getElem?_set_ne (by omega)]

theorem takeAt_mrk (a : Ar) (i : Int) (k : Nat) (hi : a.has i = true) (j : Int) (hj : 0 ≤ j) : (a.takeAt i k).mrk j = if j = i then a.mrk i ^^^ (a.mrk i &&& 2 ^ k) else a.mrk j := by
  unfold Ar.has at hi
  simp at hi
  by_cases e : j = i
  · subst e
    rw [if_pos rfl]
    have hl : j.toNat < a.sp.length := by omega
    unfold Ar.mrk Ar.takeAt
    rw [List.getElem?_set_self hl]
    rfl
  · rw [if_neg e]
    unfold Ar.mrk Ar.takeAt
    rw [List.getElem?_set_ne (by omega)]

theorem takeAt_has (a : Ar) (i : Int) (k : Nat) (j : Int) : (a.takeAt i k).has j = a.has j := by
  unfold Ar.has Ar.takeAt
  simp

theorem takeAt_place (a : Ar) (i : Int) (k : Nat) (hi : a.has i = true) (x : Int) : (a.takeAt i k).place x = a.place x := by
  unfold Ar.place
  rw [takeAt_cls a i k hi]

theorem takeAt_is {a : Ar} (hs : a.sp.length ≤ 512) {i : Int} {k : Nat} (hi : a.has i = true) (hk : (k : Int) < plc (a.clsAt i)) (x : Int) : (a.takeAt i k).is x = (a.is x || x == i * 64 + k * wds (a.clsAt i)) := by
  have hnew : (a.takeAt i k).is (i * 64 + k * wds (a.clsAt i)) = true := by
    have := is_adr (a := a.takeAt i k) (by simp [Ar.takeAt]; exact hs) (s := i) (p := k) (by rw [takeAt_has]; exact hi) (by omega) (by rw [takeAt_cls a i k hi]; exact hk)
    rw [takeAt_cls a i k hi] at this
    rw [this, takeAt_tak a i k hi i (by unfold Ar.has at hi; simp at hi; omega), if_pos rfl, Nat.testBit_or, Int.toNat_natCast, Nat.testBit_two_pow_self, Bool.or_true]
  by_cases e : x = i * 64 + k * wds (a.clsAt i)
  · subst e; rw [hnew]; simp
  · have e' : (x == i * 64 + k * wds (a.clsAt i)) = false := by simpa using e
    rw [e', Bool.or_false]
    unfold Ar.is
    rw [takeAt_place a i k hi]
    by_cases h0 : 0 ≤ a.place x
    · rw [decide_eq_true h0, Bool.true_and, Bool.true_and]
      have hsp : 0 ≤ spn x := by
        have := plOf_in (p := x) (c := a.clsAt (spn x)) h0
        rw [this.2.2.1]; omega
      rw [takeAt_tak a i k hi (spn x) hsp]
      by_cases h1 : spn x = i
      · rw [if_pos h1, h1, Nat.testBit_or, Nat.testBit_two_pow]
        have hne : k ≠ (a.place x).toNat := fun hk' => by
          -- the same place of the same span: the same address
          have hp := plOf_in (p := x) (c := a.clsAt (spn x)) h0
          have hh := Ar.place_has h0
          have h0' := h0
          unfold Ar.place plOf at h0' hk'
          have hw : wds (a.clsAt (spn x)) ≠ 0 := by
            have := hh.2.2
            generalize a.clsAt (spn x) = c at *
            rcases cls_cases c with h | h | h | h | h | h | h
            all_goals first | omega | (rw [h]; decide)
          have hs1 : spn x ≠ -1 := by rw [hp.2.2.1]; omega
          rw [if_neg hw, if_neg hs1] at h0' hk'
          by_cases h5 : x % 64 % wds (a.clsAt (spn x)) ≠ 0
          · rw [if_pos h5] at h0'; omega
          · rw [if_neg h5] at hk' h0'
            have h6 := Int.ediv_mul_cancel (Int.dvd_of_emod_eq_zero (Classical.not_not.1 h5))
            have h7 : (k : Int) = x % 64 / wds (a.clsAt (spn x)) := by omega
            rw [← h7, h1] at h6
            have h8 := hp.2.2.1
            exact e (by rw [h6]; omega)
        simp [hne]
      · rw [if_neg h1]
    · rw [decide_eq_false h0, Bool.false_and, Bool.false_and]

theorem takeAt_good {a : Ar} (hg : a.Good) {i : Int} {k : Nat} (hi : a.has i = true) (hk : (k : Int) < plc (a.clsAt i)) : (a.takeAt i k).Good := by
  intro s hs
  simp only [Ar.takeAt] at hs
  rcases List.mem_or_eq_of_mem_set hs with h | h
  · exact hg s h
  · subst h
    have hk' : k < (plc (a.clsAt i)).toNat := by omega
    exact Nat.or_lt_two_pow (hg.at hi) (Nat.pow_lt_pow_right (by decide) hk')

/-- A span without a class gets one. -/
theorem setAt_has (a : Ar) (i c j : Int) : (a.setAt i c).has j = a.has j := by
  unfold Ar.has Ar.setAt
  simp

theorem setAt_cls (a : Ar) {i c : Int} (hi : a.has i = true) (j : Int) : (a.setAt i c).clsAt j = if j = i then c else a.clsAt j := by
  have hi' := hi
  unfold Ar.has at hi
  simp at hi
  unfold Ar.clsAt
  rw [setAt_has]
  by_cases hj : a.has j = true
  · rw [if_pos hj, if_pos hj]
    have hj' := hj
    unfold Ar.has at hj'
    simp at hj'
    simp only [Ar.setAt]
    by_cases e : j = i
    · subst e
      rw [if_pos rfl, List.getElem?_set_self (by omega)]
      rfl
    · rw [if_neg e, List.getElem?_set_ne (by omega)]
  · rw [if_neg hj, if_neg hj]
    by_cases e : j = i
    · subst e; exact absurd hi' hj
    · rw [if_neg e]

theorem setAt_tak (a : Ar) {i c : Int} (hi : a.has i = true) (j : Int) (hj : 0 ≤ j) : (a.setAt i c).tak j = if j = i then 0 else a.tak j := by
  unfold Ar.has at hi
  simp at hi
  by_cases e : j = i
  · subst e
    rw [if_pos rfl]
    have hl : j.toNat < a.sp.length := by omega
    unfold Ar.tak Ar.setAt
    rw [List.getElem?_set_self hl]
    rfl
  · rw [if_neg e]
    unfold Ar.tak Ar.setAt
    rw [List.getElem?_set_ne (by omega)]

theorem setAt_mrk (a : Ar) {i c : Int} (hi : a.has i = true) (j : Int) (hj : 0 ≤ j) : (a.setAt i c).mrk j = if j = i then 0 else a.mrk j := by
  unfold Ar.has at hi
  simp at hi
  by_cases e : j = i
  · subst e
    rw [if_pos rfl]
    have hl : j.toNat < a.sp.length := by omega
    unfold Ar.mrk Ar.setAt
    rw [List.getElem?_set_self hl]
    rfl
  · rw [if_neg e]
    unfold Ar.mrk Ar.setAt
    rw [List.getElem?_set_ne (by omega)]

theorem setAt_is {a : Ar} {i c : Int} (hi : a.has i = true) (h0 : a.clsAt i = -1) (x : Int) : (a.setAt i c).is x = a.is x := by
  have key : ∀ b : Ar, b.has i = true → spn x = i → (b.tak i = 0 ∨ b.clsAt i = -1) → b.is x = false := fun b _ hsx h => by
    cases hb : b.is x with
    | false => rfl
    | true =>
      obtain ⟨s, p, h1, h2, h3, h4, h5, h6, h7, h8, h9⟩ := is_place hb
      rw [hsx] at h4
      subst h4
      rcases h with h | h
      · rw [h] at h7; simp at h7
      · omega
  by_cases e : spn x = i
  · rw [key a hi e (.inr h0), key (a.setAt i c) (by rw [setAt_has]; exact hi) e (.inl ?_)]
    rw [setAt_tak a hi i (by unfold Ar.has at hi; simp at hi; omega), if_pos rfl]
  · unfold Ar.is Ar.place
    rw [setAt_cls a hi, if_neg e]
    by_cases h1 : 0 ≤ plOf x (a.clsAt (spn x))
    · have hp := plOf_in h1
      rw [setAt_tak a hi _ (by rw [hp.2.2.1]; omega), if_neg e]
    · rw [decide_eq_false h1, Bool.false_and, Bool.false_and]

theorem setAt_good {a : Ar} (hg : a.Good) (i c : Int) : (a.setAt i c).Good := by
  intro s hs
  simp only [Ar.setAt] at hs
  rcases List.mem_or_eq_of_mem_set hs with h | h
  · exact hg s h
  · subst h
    exact Nat.two_pow_pos _

/-! ### The allocator's choice -/

/-- The first span of the class that has room; the first without a class. -/
def Ar.firstRoom (a : Ar) (c : Int) : Option Nat := (List.range a.sp.length).find? fun i => a.clsAt i == c && a.tak i != 2 ^ (plc c).toNat - 1
def Ar.firstFree (a : Ar) : Option Nat := (List.range a.sp.length).find? fun i => decide (1 ≤ i) && a.clsAt i == -1

/-- A place for so many words: the arena behind it, the address (nought: there is none). -/
def Ar.alloc (a : Ar) (w : Int) : Ar × Int :=
  if cls w = -1 then (a, 0) else
    match a.firstRoom (cls w) with
    | some i => (a.takeAt i (firstZ (a.tak i)), i * 64 + firstZ (a.tak i) * wds (cls w))
    | none => match a.firstFree with
      | some i => ((a.setAt i (cls w)).takeAt i 0, i * 64)
      | none => (a, 0)

end Go.Proofs.YtkfdbgpegekcfaaGreatDoorP

namespace Go.Proofs.YtkfdbgpegekcfaaGreatDoorP
open Go Go.GL Go.GLM Go.Proofs Go.Maps
attribute [local irreducible] rawV rawN rawU Tryz.prog

/-- The allocator, none of its spans stale. -/
def alA (L S A n : Nat) : Asrt :=
  onBlks [L, S] (fun h => AlO h L S A n) (fun ho _ he => ⟨blk_loc ho.own (he L (by simp)), blk_loc ho.stale (he S (by simp))⟩)
    (fun ho b hb => by
      simp only [List.mem_cons, List.not_mem_nil, or_false] at hb
      rcases hb with rfl | rfl
      · exact ho.own.lt
      · exact ho.stale.lt)

section
variable {h : H} {Γ : List Asrt} {ia il A B W L S n : Nat} {a : Ar}

theorem alloc_New_S (hs : Sat h Γ) (hi : Γ[ia]? = some (arA A B W a)) {K : Option Addr → H → Prop} (hk : ∀ h' L S, Sat h' (Γ ++ [alA L S A a.sp.length]) → K (some ⟨L, 0, none⟩) h') : alloc_New.C (some ⟨A, 0, none⟩) h K :=
  alloc_New_C (arA_at hs hi) fun h' L S hf hL hS ho => hk h' L S (hs.new hf (d := fun b => b ∈ [L, S]) ⟨ho, fun b => Iff.rfl⟩ fun b hb => by
    simp only [List.mem_cons, List.not_mem_nil, or_false] at hb
    rcases hb with rfl | rfl <;> assumption)

theorem firstRoom_some {c : Int} {i : Nat} (h : a.firstRoom c = some i) : i < a.sp.length ∧ a.clsAt i = c ∧ a.tak i ≠ 2 ^ (plc c).toNat - 1 ∧ ∀ j : Nat, j < i → ¬ (a.clsAt j = c ∧ a.tak j ≠ 2 ^ (plc c).toNat - 1) := by
  unfold Ar.firstRoom at h
  obtain ⟨h1, j, hj, h2, h3⟩ := List.find?_eq_some_iff_getElem.1 h
  simp at h2 hj
  subst h2
  simp only [Bool.and_eq_true, beq_iff_eq, bne_iff_ne] at h1
  refine ⟨hj, h1.1, h1.2, fun k hk hc => ?_⟩
  have := h3 k hk
  simp [hc.1, hc.2] at this

theorem firstRoom_none {c : Int} (h : a.firstRoom c = none) : ∀ j : Nat, j < a.sp.length → ¬ (a.clsAt j = c ∧ a.tak j ≠ 2 ^ (plc c).toNat - 1) := by
  unfold Ar.firstRoom at h
  rw [List.find?_eq_none] at h
  intro j hj hc
  have := h j (by simpa using hj)
  simp at this
  exact hc.2 (this hc.1)

theorem firstFree_some {i : Nat} (h : a.firstFree = some i) : 1 ≤ i ∧ i < a.sp.length ∧ a.clsAt i = -1 ∧ ∀ j : Nat, 1 ≤ j → j < i → a.clsAt j ≠ -1 := by
  unfold Ar.firstFree at h
  obtain ⟨h1, j, hj, h2, h3⟩ := List.find?_eq_some_iff_getElem.1 h
  simp at h2 hj
  subst h2
  simp only [Bool.and_eq_true, beq_iff_eq, decide_eq_true_eq] at h1
  refine ⟨h1.1, hj, h1.2, fun k hk1 hk hc => ?_⟩
  have := h3 k hk
  simp [hc] at this
  omega

theorem firstFree_none (h : a.firstFree = none) : ∀ j : Nat, 1 ≤ j → j < a.sp.length → a.clsAt j ≠ -1 := by
  unfold Ar.firstFree at h
  rw [List.find?_eq_none] at h
  intro j h1 hj hc
  have := h j (by simpa using hj)
  simp at this
  exact this h1 hc

theorem roomy_iff {c j : Int} (hj : 0 ≤ j) : a.roomy c j ↔ a.clsAt j = c ∧ a.tak j ≠ 2 ^ (plc c).toNat - 1 := by
  unfold Ar.roomy
  have : ∀ x y : Nat, (x : Int) ≠ ((y : Nat) : Int) ↔ x ≠ y := fun x y => by omega
  rw [this]

theorem roomy_nat {c : Int} {j : Nat} : a.roomy c j ↔ a.clsAt j = c ∧ a.tak j ≠ 2 ^ (plc c).toNat - 1 := roomy_iff (by omega)

/-- The error that comes with an address. -/
def errOf (x w : Int) : Int := if x ≠ 0 then 0 else if cls w = -1 then 1 else 5

theorem alloc_Take_S (hs : Sat h Γ) (ht : Tab h) (hB : B ≠ 0 ∧ S ≠ 0) (hia : Γ[ia]? = some (arA A B W a)) (hil : Γ[il]? = some (alA L S A n)) (hne : ia ≠ il) (hn : n = a.sp.length) (hg : a.Good) {w : Int} {K : Int → Int → H → Prop}
    (hk : ∀ h', Sat h' (Γ.set ia (arA A B W (a.alloc w).1)) → K (a.alloc w).2 (errOf (a.alloc w).2 w) h') : alloc_Alloc_Take.C (some ⟨L, 0, none⟩) w h K := by
  obtain ⟨d, e, ⟨ho, hd⟩, ⟨hal, he⟩, hdis, up⟩ := hs.two hia hil hne
  have same : Sat h (Γ.set ia (arA A B W a)) := by rw [set_id hia]; exact hs
  have hsm := ho.ok.small
  have hdB : ∀ b, b = A ∨ b = B ∨ b = W → d b := fun b hb => (hd b).2 (by simpa using hb)
  have heL : ∀ b, b = L ∨ b = S → e b := fun b hb => (he b).2 (by simpa using hb)
  have hne' : A ≠ S ∧ B ≠ S ∧ W ≠ S ∧ L ≠ B ∧ L ≠ W := by
    refine ⟨?_, ?_, ?_, ?_, ?_⟩
    · rintro rfl; exact hdis A (hdB A (.inl rfl)) (heL A (.inr rfl))
    · rintro rfl; exact hdis B (hdB B (.inr (.inl rfl))) (heL B (.inr rfl))
    · rintro rfl; exact hdis W (hdB W (.inr (.inr rfl))) (heL W (.inr rfl))
    · rintro rfl; exact hdis L (hdB L (.inr (.inl rfl))) (heL L (.inl rfl))
    · rintro rfl; exact hdis L (hdB L (.inr (.inr rfl))) (heL L (.inl rfl))
  have done : ∀ {h' : H} {a' : Ar} {S' : Nat → Prop}, Fr S' h h' → (∀ b, S' b → b = A ∨ b = B ∨ b = W ∨ b = S) → ArO 118 113 2 h' A B W a' → AlO h' L S A n → Sat h' (Γ.set ia (arA A B W a')) := by
    intro h' a' S' hf hS ho' hal'
    have := up hf (fun b hb => by
      rcases hS b hb with h1 | h1 | h1 | h1
      · exact .inl (hdB b (.inl h1))
      · exact .inl (hdB b (.inr (.inl h1)))
      · exact .inl (hdB b (.inr (.inr h1)))
      · exact .inr (.inl (heL b (.inr h1)))) (A' := arA A B W a') (B' := alA L S A n) (d' := d) (e' := e) ⟨ho', hd⟩ ⟨hal', he⟩ hdis (fun b hb => by rcases hb with h1 | h1; exact .inl h1; exact .inr (.inl h1))
    rwa [set_id (at_ne hil hne)] at this
  unfold Ar.alloc at hk
  refine alloc_Take_C ho hal hn (fun h1 => ?_) (fun i h1 i0 i1 hr hno => ?_) (fun i h1 i0 i1 hfree hroom hno => ?_) fun h1 hroom hno => ?_
  · rw [if_pos h1] at hk
    have := hk h same
    unfold errOf at this
    rw [if_neg (fun h => h rfl), if_pos h1] at this
    exact this
  · rw [if_neg h1] at hk
    obtain ⟨i, rfl⟩ : ∃ n : Nat, i = n := ⟨i.toNat, by omega⟩
    have hlt : i < a.sp.length := by omega
    have hfr : a.firstRoom (cls w) = some i := by
      cases hf : a.firstRoom (cls w) with
      | none => exact absurd (roomy_nat.1 hr) (firstRoom_none hf i hlt)
      | some j =>
        obtain ⟨j0, j1, j2, j3⟩ := firstRoom_some hf
        by_cases hij : i < j
        · exact absurd (roomy_nat.1 hr) (j3 _ hij)
        · by_cases hji : j < i
          · exact absurd (roomy_nat.2 ⟨j1, j2⟩) (hno j (by omega) (by omega))
          · rw [show j = i from by omega]
    rw [hfr] at hk
    simp only at hk
    have hcl := hr.1
    have hhas : a.has i = true := by
      cases hh : a.has i
      · have : a.clsAt i = -1 := by unfold Ar.clsAt; rw [if_neg (by rw [hh]; decide)]
        rw [hcl] at this; exact absurd this h1
      · rfl
    have htk64 : a.tak i < 2 ^ 64 := by
      have := hg.at hhas
      have hp := plc_bd (a.clsAt i)
      exact Nat.lt_of_lt_of_le this (Nat.pow_le_pow_right (by omega) (by omega))
    have hfz := (firstZ_spec htk64).1
    have hroom := hg.room hhas (by rw [hcl]; exact ((roomy_iff i0).1 hr).2)
    refine arena_Take_C ho ht (fun h2 => ?_) (fun k _ hf hp => ?_) fun k _ hf hp h' hfr' ho' => ?_
    · rw [hcl] at h2; exact absurd h2 h1
    · rw [hf.unique hfz] at hp; omega
    · rw [hf.unique hfz] at ho' ⊢
      rw [hcl] at hroom ⊢
      have hhas' := hhas
      unfold Ar.has at hhas'
      simp at hhas'
      have hm := mul_bd (p := (firstZ (a.tak i) : Int)) (by omega) hroom
      have := hk h' (done hfr' (fun b hb => by rcases hb with h | h; exact .inr (.inl h); exact .inr (.inr (.inl h))) ho' (hal.fr hfr' (fun h => by rcases h with h | h; exact hne'.2.2.2.1 h; exact hne'.2.2.2.2 h) (fun h => by rcases h with h | h; exact hne'.2.1 h.symm; exact hne'.2.2.1 h.symm)))
      unfold errOf at this
      rw [if_pos (by omega)] at this
      exact this
  · rw [if_neg h1] at hk
    obtain ⟨i, rfl⟩ : ∃ n : Nat, i = n := ⟨i.toNat, by omega⟩
    have hlt : i < a.sp.length := by omega
    have hfr : a.firstRoom (cls w) = none := by
      cases hf : a.firstRoom (cls w) with
      | none => rfl
      | some j =>
        obtain ⟨j0, j1, j2, j3⟩ := firstRoom_some hf
        exact absurd (roomy_nat.2 ⟨j1, j2⟩) (hroom j (by omega) (by omega))
    have hff : a.firstFree = some i := by
      cases hf : a.firstFree with
      | none => exact absurd hfree (firstFree_none hf i (by omega) hlt)
      | some j =>
        obtain ⟨j0, j1, j2, j3⟩ := firstFree_some hf
        by_cases hij : i < j
        · exact absurd hfree (j3 _ (by omega) hij)
        · by_cases hji : j < i
          · exact absurd j2 (hno j (by omega) (by omega))
          · rw [show j = i from by omega]
    rw [hfr, hff] at hk
    simp only at hk
    have hcb := cls_bd w
    refine alloc_begin_C ho ht hB hal hne' hn ⟨i0, i1⟩ ⟨by omega, by omega⟩ hfree fun h' hfr' ho' hal' => ?_
    have := hk h' (done hfr' (fun b hb => by rcases hb with h | h | h; exact .inr (.inl h); exact .inr (.inr (.inl h)); exact .inr (.inr (.inr h))) ho' hal')
    unfold errOf at this
    rw [if_pos (by omega)] at this
    exact this
  · rw [if_neg h1] at hk
    have hfr : a.firstRoom (cls w) = none := by
      cases hf : a.firstRoom (cls w) with
      | none => rfl
      | some j =>
        obtain ⟨j0, j1, j2, j3⟩ := firstRoom_some hf
        exact absurd (roomy_nat.2 ⟨j1, j2⟩) (hroom j (by omega) (by omega))
    have hff : a.firstFree = none := by
      cases hf : a.firstFree with
      | none => rfl
      | some j =>
        obtain ⟨j0, j1, j2, j3⟩ := firstFree_some hf
        exact absurd j2 (hno j (by omega) (by omega))
    rw [hfr, hff] at hk
    have := hk h same
    unfold errOf at this
    rw [if_neg (fun h => h rfl), if_neg h1] at this
    exact this

end
end Go.Proofs.YtkfdbgpegekcfaaGreatDoorP

namespace Go.Proofs.YtkfdbgpegekcfaaGreatDoorP
open Go Go.GL Go.GLM Go.Proofs

/-- The reference's arena has the program's classes and things. -/
structure Sim (a : Ar) (R : Rf) : Prop where
  cl : R.cl = a.sp.map (·.1)
  has : ∀ x, R.has x = a.is x
  len : ∀ t ∈ R.l, (t.w.length : Int) = wds (a.clsAt (spn t.at_))
  nd : (R.l.map (·.at_)).Nodup

section
variable {a : Ar} {R : Rf}

theorem Rf.has_iff {R : Rf} {x : Int} : R.has x = true ↔ x ∈ R.l.map (·.at_) := by
  unfold Rf.has
  rw [List.any_eq_true, List.mem_map]
  constructor
  · rintro ⟨t, h1, h2⟩; exact ⟨t, h1, by simpa using h2⟩
  · rintro ⟨t, h1, h2⟩; exact ⟨t, h1, by simpa using h2⟩

theorem Sim.num (hs : Sim a R) : R.l.length ≤ 32768 := by
  have := nodup_bound 32768 (R.l.map (·.at_)) hs.nd fun x hx => is_range (by rw [← hs.has]; exact Rf.has_iff.2 hx)
  rwa [List.length_map] at this

theorem Sim.clLen (hs : Sim a R) : R.cl.length = a.sp.length := by rw [hs.cl, List.length_map]

theorem Sim.clAt (hs : Sim a R) {s : Int} (h1 : 1 ≤ s) (h2 : s < a.sp.length) : R.cl[s.toNat]? = some (a.clsAt s) := by
  have hh : a.has s = true := by unfold Ar.has; simp; omega
  obtain ⟨x, hx, _, hc, _⟩ := Ar.at hh
  rw [hs.cl, List.getElem?_map, hx, hc]
  rfl

theorem has_of {s : Int} (h1 : 1 ≤ s) (h2 : s < a.sp.length) : a.has s = true := by unfold Ar.has; simp; omega

theorem adr_eq {s p c : Int} (h1 : 1 ≤ s) (h2 : s < 512) (h3 : 0 ≤ p) (h4 : p < plc c) : adr s p c = s * 64 + p * wds c := by
  unfold adr
  rw [if_neg (by omega)]

theorem Sim.hasAdr (hs : Sim a R) (h5 : a.sp.length ≤ 512) {s p : Int} (h1 : 1 ≤ s) (h2 : s < a.sp.length) (h3 : 0 ≤ p) (h4 : p < plc (a.clsAt s)) : R.has (adr s p (a.clsAt s)) = (a.tak s).testBit p.toNat := by
  rw [hs.has, adr_eq h1 (by omega) h3 h4, is_adr h5 (has_of h1 h2) h3 h4]

theorem Sim.roomy (hs : Sim a R) (hg : a.Good) (h5 : a.sp.length ≤ 512) {c s : Int} (h1 : 1 ≤ s) (h2 : s < a.sp.length) : R.roomy c s ↔ a.clsAt s = c ∧ a.tak s ≠ 2 ^ (plc c).toNat - 1 := by
  unfold Rf.roomy
  rw [hs.clAt h1 h2]
  constructor
  · rintro ⟨h3, p, p0, p1, p2⟩
    cases h3
    refine ⟨rfl, fun he => ?_⟩
    rw [hs.hasAdr h5 h1 h2 p0 p1, he, full_low (by omega)] at p2
    cases p2
  · rintro ⟨rfl, h4⟩
    have hf := hg.room (has_of h1 h2) h4
    have htk := hg.at (has_of h1 h2)
    have hp := plc_bd (a.clsAt s)
    have h64 : a.tak s < 2 ^ 64 := Nat.lt_of_lt_of_le htk (Nat.pow_le_pow_right (by omega) (by omega))
    refine ⟨rfl, (firstZ (a.tak s) : Int), by omega, hf, ?_⟩
    rw [hs.hasAdr h5 h1 h2 (by omega) hf, Int.toNat_natCast]
    exact (firstZ_spec h64).1.1

theorem Sim.first (hs : Sim a R) (hg : a.Good) (h5 : a.sp.length ≤ 512) {s p : Int} (h1 : 1 ≤ s) (h2 : s < a.sp.length) (p0 : 0 ≤ p) (p1 : p < plc (a.clsAt s)) (hno : R.has (adr s p (a.clsAt s)) = false)
    (hall : ∀ q, 0 ≤ q → q < p → R.has (adr s q (a.clsAt s)) = true) : p = (firstZ (a.tak s) : Int) := by
  have htk := hg.at (has_of h1 h2)
  have hp := plc_bd (a.clsAt s)
  have h64 : a.tak s < 2 ^ 64 := Nat.lt_of_lt_of_le htk (Nat.pow_le_pow_right (by omega) (by omega))
  have hf : IsFirst (a.tak s) p.toNat := by
    refine ⟨?_, fun j hj => ?_⟩
    · rw [← hs.hasAdr h5 h1 h2 p0 p1]; exact hno
    · have := hall j (by omega) (by omega)
      rw [hs.hasAdr h5 h1 h2 (by omega) (by omega), Int.toNat_natCast] at this
      exact this
  have := hf.unique (firstZ_spec h64).1
  omega

theorem adr_spn {s p c : Int} (h1 : 1 ≤ s) (h2 : s < 512) (h3 : 0 ≤ p) (h4 : p < plc c) : spn (s * 64 + p * wds c) = s := by
  have hm := mul_bd h3 h4
  have hw : 0 < wds c := by
    have h5 : 0 ≤ c ∧ c ≤ 5 := by
      rcases cls_cases c with h | h | h | h | h | h | h
      all_goals first | omega | (rw [plc_bad h] at h4; omega)
    rcases cls_cases c with h | h | h | h | h | h | h
    all_goals first | omega | (rw [h]; decide)
  unfold spn
  rw [if_neg (by omega)]
  omega

/-- A place is taken in both. -/
theorem Sim.take (hs : Sim a R) (h5 : a.sp.length ≤ 512) {s : Int} {k j : Nat} (h1 : 1 ≤ s) (h2 : s < a.sp.length) (hk : (k : Int) < plc (a.clsAt s)) (hno : R.has (s * 64 + k * wds (a.clsAt s)) = false) :
    Sim (a.takeAt s k) (R.ins j ⟨s * 64 + k * wds (a.clsAt s), List.replicate (wds (a.clsAt s)).toNat 0, false⟩) := by
  have hh := has_of (a := a) h1 h2
  have hperm : (R.ins j ⟨s * 64 + k * wds (a.clsAt s), List.replicate (wds (a.clsAt s)).toNat 0, false⟩).l.Perm (⟨s * 64 + k * wds (a.clsAt s), List.replicate (wds (a.clsAt s)).toNat 0, false⟩ :: R.l) := by
    refine List.perm_middle.trans ?_
    rw [List.take_append_drop]
  have hcl : (a.takeAt s k).sp.map (·.1) = a.sp.map (·.1) := by
    obtain ⟨x, hx, _, hc, _⟩ := Ar.at hh
    simp only [Ar.takeAt, List.map_set]
    refine List.ext_getElem? fun i => ?_
    by_cases e : s.toNat = i
    · subst e
      have hl := (List.getElem?_eq_some_iff.1 hx).1
      rw [List.getElem?_set_self (by simpa using hl), List.getElem?_map, hx, hc]
      rfl
    · rw [List.getElem?_set_ne e]
  refine ⟨by rw [hcl]; exact hs.cl, fun x => ?_, fun t ht => ?_, ?_⟩
  · rw [takeAt_is h5 hh hk, ← hs.has]
    have : ∀ b, (R.ins j ⟨s * 64 + k * wds (a.clsAt s), List.replicate (wds (a.clsAt s)).toNat 0, false⟩).has b = (R.has b || b == s * 64 + k * wds (a.clsAt s)) := fun b => by
      rw [Bool.eq_iff_iff, Rf.has_iff, (hperm.map (·.at_)).mem_iff, List.map_cons, List.mem_cons, Bool.or_eq_true, Rf.has_iff, beq_iff_eq]
      exact Or.comm
    exact this x
  · rw [takeAt_cls a s k hh]
    rcases List.mem_cons.1 (hperm.mem_iff.1 ht) with rfl | ht
    · have hw := wds_bd (a.clsAt s)
      simp only [List.length_replicate]
      rw [adr_spn h1 (by omega) (by omega) hk]
      omega
    · exact hs.len t ht
  · refine ((hperm.map (·.at_)).nodup_iff).2 ?_
    rw [List.map_cons, List.nodup_cons]
    refine ⟨fun hm => ?_, hs.nd⟩
    rw [Rf.has_iff.2 hm] at hno
    cases hno

/-- A span gets its class in both. -/
theorem Sim.set (hs : Sim a R) {s c : Int} (h1 : 1 ≤ s) (h2 : s < a.sp.length) (hf : a.clsAt s = -1) : Sim (a.setAt s c) (R.setCl s c) := by
  have hh := has_of (a := a) h1 h2
  refine ⟨?_, fun x => ?_, fun t ht => ?_, hs.nd⟩
  · simp only [Rf.setCl, Ar.setAt, List.map_set, hs.cl]
  · rw [setAt_is hh hf]
    exact hs.has x
  · have hl := hs.len t ht
    rw [setAt_cls a hh]
    by_cases e : spn t.at_ = s
    · -- a span without a class has no things
      have : a.is t.at_ = true := by rw [← hs.has]; exact Rf.has_iff.2 (List.mem_map.2 ⟨t, ht, rfl⟩)
      obtain ⟨s', p, q1, q2, q3, q4, q5, q6, q7, q8, q9⟩ := is_place this
      rw [e] at q4
      subst q4
      omega
    · rw [if_neg e]
      exact hl

theorem alloc_room {w : Int} {i : Nat} (h : cls w ≠ -1) (hf : a.firstRoom (cls w) = some i) : a.alloc w = (a.takeAt i (firstZ (a.tak i)), i * 64 + firstZ (a.tak i) * wds (cls w)) := by
  unfold Ar.alloc
  rw [if_neg h, hf]
theorem alloc_free {w : Int} {i : Nat} (h : cls w ≠ -1) (hf : a.firstRoom (cls w) = none) (hg : a.firstFree = some i) : a.alloc w = ((a.setAt i (cls w)).takeAt i 0, (i : Int) * 64) := by
  unfold Ar.alloc
  rw [if_neg h, hf, hg]
theorem alloc_full {w : Int} (h : cls w ≠ -1) (hf : a.firstRoom (cls w) = none) (hg : a.firstFree = none) : a.alloc w = (a, 0) := by
  unfold Ar.alloc
  rw [if_neg h, hf, hg]

theorem firstRoom_is {c : Int} {i : Nat} (hi : i < a.sp.length) (hr : a.clsAt i = c ∧ a.tak i ≠ 2 ^ (plc c).toNat - 1) (hno : ∀ j : Nat, j < i → ¬ (a.clsAt j = c ∧ a.tak j ≠ 2 ^ (plc c).toNat - 1)) : a.firstRoom c = some i := by
  cases hf : a.firstRoom c with
  | none => exact absurd hr (firstRoom_none hf i hi)
  | some j =>
    obtain ⟨j0, j1, j2, j3⟩ := firstRoom_some hf
    by_cases hij : i < j
    · exact absurd hr (j3 i hij)
    · by_cases hji : j < i
      · exact absurd ⟨j1, j2⟩ (hno j hji)
      · rw [show j = i from by omega]

theorem firstFree_is {i : Nat} (h1 : 1 ≤ i) (hi : i < a.sp.length) (hr : a.clsAt i = -1) (hno : ∀ j : Nat, 1 ≤ j → j < i → a.clsAt j ≠ -1) : a.firstFree = some i := by
  cases hf : a.firstFree with
  | none => exact absurd hr (firstFree_none hf i h1 hi)
  | some j =>
    obtain ⟨j0, j1, j2, j3⟩ := firstFree_some hf
    by_cases hij : i < j
    · exact absurd hr (j3 i h1 hij)
    · by_cases hji : j < i
      · exact absurd j2 (hno j j0 hji)
      · rw [show j = i from by omega]

theorem room_none {c : Int} (h : ∀ j : Nat, j < a.sp.length → ¬ (a.clsAt j = c ∧ a.tak j ≠ 2 ^ (plc c).toNat - 1)) : a.firstRoom c = none := by
  cases hf : a.firstRoom c with
  | none => rfl
  | some j =>
    obtain ⟨j0, j1, j2, j3⟩ := firstRoom_some hf
    exact absurd ⟨j1, j2⟩ (h j j0)

theorem free_none (h : ∀ j : Nat, 1 ≤ j → j < a.sp.length → a.clsAt j ≠ -1) : a.firstFree = none := by
  cases hf : a.firstFree with
  | none => rfl
  | some j =>
    obtain ⟨j0, j1, j2, j3⟩ := firstFree_some hf
    exact absurd j2 (h j j0 j1)

theorem cls_zero : a.clsAt 0 = -1 := by
  unfold Ar.clsAt Ar.has
  rw [if_neg (by simp)]

end
end Go.Proofs.YtkfdbgpegekcfaaGreatDoorP

namespace Go.Proofs.YtkfdbgpegekcfaaGreatDoorP
open Go Go.GL Go.GLM Go.Proofs Go.Maps
attribute [local irreducible] rawV rawN rawU Tryz.prog

section
variable {h : H} {Γ : List Asrt} {i iy is X Y S n : Nat} {R : Rf} {a : Ar}

theorem plc_pos {c : Int} (h : 0 ≤ c ∧ c ≤ 5) : 0 < plc c := by
  rcases cls_cases c with h | h | h | h | h | h | h
  all_goals first | omega | (rw [h]; decide)

theorem ref4_AllocTake_S (hs : Sat h Γ) (hi : Γ[i]? = some (rfA X R)) (hy : Γ[iy]? = some (blkA Y 165 (ralV X S n))) (hS : Γ[is]? = some (blkA S 4 (List.replicate n (.bool false)))) (hne : i ≠ iy ∧ i ≠ is ∧ iy ≠ is) (hn : n = a.sp.length) (hn5 : n ≤ 512)
    (hsim : Sim a R) (hg : a.Good) (hcl : ∀ s ∈ a.sp, -1 ≤ s.1) {w : Int} (hw : 0 ≤ cls w) {K : Int → H → Prop} (hk : ∀ h' R', Sim (a.alloc w).1 R' → Sat h' (Γ.set i (rfA X R')) → K (a.alloc w).2 h') :
    gantlineref4_Alloc_Take.C (some ⟨Y, 0, none⟩) w h K := by
  have hcn : cls w ≠ -1 := by omega
  have hcb := cls_bd w
  have hlen := hsim.num
  have hla := hsim.clLen
  refine ref4_AllocTake_C hs hi hy hS hne (by omega) hn5 (by omega) hw ?_ ?_ ?_
  · intro s p k h1 h2 hc hno p0 p1 hp hall _ _ _ h' hs'
    obtain ⟨s, rfl⟩ : ∃ m : Nat, s = m := ⟨s.toNat, by omega⟩
    have hca : a.clsAt s = cls w := by
      have := hsim.clAt (s := s) h1 (by omega)
      rw [hc] at this
      exact (Option.some.inj this).symm
    rw [← hca] at p1 hp hall hs' ⊢
    have hpz := hsim.first hg (by omega) h1 (by omega) p0 p1 hp hall
    subst hpz
    have hr : a.clsAt s = cls w ∧ a.tak s ≠ 2 ^ (plc (cls w)).toNat - 1 := (hsim.roomy hg (by omega) h1 (by omega)).1 ⟨hc, _, p0, by rw [← hca]; exact p1, by rw [← hca]; exact hp⟩
    have hfr := firstRoom_is (by omega) hr fun j hj hrj => by
      by_cases j0 : j = 0
      · subst j0; have := hrj.1; rw [show ((0 : Nat) : Int) = 0 from rfl, cls_zero] at this; omega
      · exact hno j (by omega) (by omega) ((hsim.roomy hg (by omega) (by omega) (by omega)).2 hrj)
    have hal := alloc_room hcn hfr
    rw [hal] at hk
    rw [adr_eq h1 (by omega) p0 p1] at hp hs' ⊢
    rw [← hca] at hk
    exact hk h' _ (hsim.take (by omega) h1 (by omega) p1 hp) hs'
  · intro s d h1 h2 hno hd hd0 hfree h' hs'
    obtain ⟨s, rfl⟩ : ∃ m : Nat, s = m := ⟨s.toNat, by omega⟩
    have hca : a.clsAt s = d := by
      have := hsim.clAt (s := s) h1 (by omega)
      rw [hd] at this
      exact (Option.some.inj this).symm
    have hge : ∀ j : Int, 1 ≤ j → j < a.sp.length → -1 ≤ a.clsAt j := fun j j1 j2 => by
      obtain ⟨x, hx, hm, hc, _⟩ := Ar.at (has_of (a := a) j1 j2)
      rw [hc]; exact hcl x hm
    have hcm : a.clsAt s = -1 := by have := hge s h1 (by omega); omega
    have hfr : a.firstRoom (cls w) = none := room_none fun j hj hrj => by
      by_cases j0 : j = 0
      · subst j0; have := hrj.1; rw [show ((0 : Nat) : Int) = 0 from rfl, cls_zero] at this; omega
      · exact hno j (by omega) (by omega) ((hsim.roomy hg (by omega) (by omega) (by omega)).2 hrj)
    have hff : a.firstFree = some s := firstFree_is (by omega) (by omega) hcm fun j j1 hj hc => by
      have := hfree j (by omega) (by omega) _ (hsim.clAt (by omega) (by omega))
      omega
    rw [alloc_free hcn hfr hff] at hk
    have hh := has_of (a := a) h1 (by omega)
    have hs2 := hsim.set (c := cls w) h1 (by omega) hcm
    have hc2 : (a.setAt s (cls w)).clsAt s = cls w := by rw [setAt_cls a hh, if_pos rfl]
    have ht2 : (a.setAt s (cls w)).tak s = 0 := by rw [setAt_tak a hh s (by omega), if_pos rfl]
    have hl2 : (a.setAt s (cls w)).sp.length = a.sp.length := by simp [Ar.setAt]
    have hpp := plc_pos (c := cls w) ⟨hw, by omega⟩
    have hget : R.has (adr s 0 (cls w)) = false := by
      have := hs2.hasAdr (by omega) h1 (by omega) (p := 0) (by decide) (by rw [hc2]; exact hpp)
      rw [hc2, ht2] at this
      have h0 : (0 : Nat).testBit (0 : Int).toNat = false := Nat.zero_testBit _
      exact this.trans h0
    refine ref4_give_C hs' hi hy hS hne (by omega) (by omega) h1 h2 ⟨hw, by omega⟩ (fun hall _ _ => ?_) fun p k p0 p1 hp hall _ _ _ h2' hs2' => ?_
    · rw [hall 0 (by decide) hpp] at hget; cases hget
    · have hp0 : p = 0 := Classical.byContradiction fun hne => by
        rw [hall 0 (by decide) (by omega)] at hget; cases hget
      subst hp0
      rw [adr_eq h1 (by omega) p0 p1] at hp hs2' ⊢
      have := hk h2' _ ?_ hs2'
      · simpa using this
      · have := hs2.take (j := k) (k := 0) (by omega) h1 (by omega) (by rw [hc2]; exact p1) (by rw [hc2]; exact hp)
        rw [hc2] at this
        exact this
  · intro hno hfree h' hs'
    have hfr : a.firstRoom (cls w) = none := room_none fun j hj hrj => by
      by_cases j0 : j = 0
      · subst j0; have := hrj.1; rw [show ((0 : Nat) : Int) = 0 from rfl, cls_zero] at this; omega
      · exact hno j (by omega) (by omega) ((hsim.roomy hg (by omega) (by omega) (by omega)).2 hrj)
    have hff : a.firstFree = none := free_none fun j j1 hj hc => by
      have := hfree j (by omega) (by omega) _ (hsim.clAt (by omega) (by omega))
      omega
    rw [alloc_full hcn hfr hff] at hk
    exact hk h' R hsim (by rw [set_id hi]; exact hs')

end
end Go.Proofs.YtkfdbgpegekcfaaGreatDoorP

namespace Go.Proofs.YtkfdbgpegekcfaaGreatDoorP
open Go Go.GL Go.GLM Go.Proofs Go.Maps
attribute [local irreducible] rawV rawN rawU Tryz.prog

theorem and_low (n : Int) (j : Nat) (hj : j ≤ 62) : bitsI .and .i64 n ((2 ^ j - 1 : Nat) : Int) = n % ((2 ^ j : Nat) : Int) := by
  have h2 : (2 : Nat) ^ j < 2 ^ 63 := Nat.pow_lt_pow_right (by decide) (by omega)
  have hp : 0 < (2 : Nat) ^ j := Nat.two_pow_pos j
  have e1 : (BitVec.ofInt 64 n).toNat = (n % 18446744073709551616).toNat := by simp [BitVec.toNat_ofInt]
  have e2 : (BitVec.ofInt 64 ((2 ^ j - 1 : Nat) : Int)).toNat = 2 ^ j - 1 := by
    rw [BitVec.toNat_ofInt]
    have : ((2 ^ j - 1 : Nat) : Int) % ((2 ^ 64 : Nat) : Int) = ((2 ^ j - 1 : Nat) : Int) := Int.emod_eq_of_lt (by omega) (by omega)
    rw [this, Int.toNat_natCast]
  have e3 : (BitVec.ofInt 64 n &&& BitVec.ofInt 64 ((2 ^ j - 1 : Nat) : Int)).toNat = (n % 18446744073709551616).toNat % 2 ^ j := by
    rw [BitVec.toNat_and, e1, e2, Nat.and_two_pow_sub_one_eq_mod]
  show IntKind.wrap .i64 ((BitVec.ofInt 64 n &&& BitVec.ofInt 64 ((2 ^ j - 1 : Nat) : Int)).toNat) = _
  rw [e3]
  have hlt := Nat.mod_lt (n % 18446744073709551616).toNat hp
  rw [wrap64_id (by omega) (by omega)]
  have hd : ((2 ^ j : Nat) : Int) ∣ 18446744073709551616 := by
    have : (18446744073709551616 : Int) = ((2 ^ 64 : Nat) : Int) := by decide
    rw [this]
    exact Int.natCast_dvd_natCast.2 (Nat.pow_dvd_pow 2 (by omega))
  rw [Int.natCast_emod, Int.toNat_of_nonneg (Int.emod_nonneg _ (by decide)), Int.emod_emod_of_dvd _ hd]

theorem and7 (n : Int) : bitsI .and .i64 n 7 = n % 8 := and_low n 3 (by decide)
theorem and63 (n : Int) : bitsI .and .i64 n 63 = n % 64 := and_low n 6 (by decide)

/-- A thing's shape's number, its words. -/
def kOf (s : Int) : Int := s % 8 % 6
def szOf (s w : Int) : Int := if kOf s < 4 then kOf s + 1 else if w % 64 < 1 then 1 else w % 64

theorem kOf_bd (s : Int) : 0 ≤ kOf s ∧ kOf s < 6 := by unfold kOf; omega
theorem szOf_bd (s w : Int) : 1 ≤ szOf s w ∧ szOf s w ≤ 63 := by
  have := kOf_bd s
  unfold szOf
  split
  · omega
  · split <;> omega

theorem tmod6 (s : Int) : Int.tmod (bitsI .and .i64 s 7) 6 = kOf s := by
  rw [and7, Int.tmod_eq_emod_of_nonneg (by omega)]
  rfl

section
variable {h : H} {Γ : List Asrt}

theorem law7_size_C {s w : Int} {p : Option Addr} {n c : Nat} {K : Int → H → Prop} (hk : ∀ h', Fr noB h h' → K (szOf s w) h') : gantlinelaw7_size.C s w p n c h K := by
  refine gantlinelaw7_size.of ?_
  unfold gantlinelaw7_size.S joinP
  refine nW fun g1 f1 s1 b1 => lI b1 rfl (need_of (by decide) ?_)
  rw [tmod6]
  have hk := hk g1 f1
  have hb := kOf_bd s
  unfold szOf at hk
  refine split_of (fun h1 => ?_) fun h1 => ?_
  · simp at h1
    rw [if_pos h1] at hk
    rw [wrap64_id (by omega) (by omega)]
    exact hk
  · simp at h1
    rw [if_neg (by omega)] at hk
    refine lI b1 rfl ?_
    rw [and63]
    refine split_of (fun h2 => ?_) fun h2 => ?_
    · simp at h2
      rw [if_pos h2] at hk
      exact hk
    · simp at h2
      rw [if_neg (by omega)] at hk
      exact hk

/-- The shapes of the statements' worlds. -/
def shapeL : List Shp := [(0, 0, 0), (0, 1, 1), (0, 2, 2), (0, 3, 5), (1, 0, 1), (1, 0, 0)]

theorem law7_shapes_C (hs : Sat h Γ) {K : Option Addr → Nat → Nat → H → Prop} (hk : ∀ h' G, Sat h' (Γ ++ [blkA G 86 (shC shapeL)]) → K (some ⟨G, 0, none⟩) 6 6 h') : gantlinelaw7_shapes.C h K := by
  refine gantlinelaw7_shapes.of ?_
  unfold gantlinelaw7_shapes.S
  refine nW fun g1 f1 s1 b1 => hk g1 _ (hs.blkNew f1 b1)

variable {i ia X A B W : Nat} {R : Rf} {a : Ar}

theorem thC_same : ∀ {xs : List (Nat × Thg)} {j : Nat} {s s' : Nat × Thg}, xs[j]? = some s → s'.1 = s.1 → s'.2.at_ = s.2.at_ → s'.2.w.length = s.2.w.length → s'.2.mkd = s.2.mkd → thC (xs.set j s') = thC xs
  | [], j, s, s', h, _, _, _, _ => by simp at h
  | x :: r, 0, s, s', h, h1, h2, h3, h4 => by
    simp at h
    subst h
    simp only [List.set_cons_zero, thC, h1, h2, h3, h4]
  | x :: r, j + 1, s, s', h, h1, h2, h3, h4 => by
    have := thC_same (xs := r) (j := j) (s := s) (s' := s') (by simpa using h) h1 h2 h3 h4
    simp only [List.set_cons_succ, thC, this]

/-- A word put in both arenas: the reference has room for it. -/
theorem put_both (hs : Sat h Γ) (hi : Γ[i]? = some (rfA X R)) (hlen : R.l.length ≤ 1000000) {p f v : Int} (hf : 0 ≤ f) (hroom : ∀ t ∈ R.l, t.at_ = p → f < t.w.length) {K : H → Prop}
    (hk : ∀ h' R', R'.cl = R.cl → R'.l.map (·.at_) = R.l.map (·.at_) → R'.l.map (fun t => t.w.length) = R.l.map (fun t => t.w.length) → Sat h' (Γ.set i (rfA X R')) → K h') :
    gantlineref4_Arena_Find.C (some ⟨X, 0, none⟩) p h (fun n6 h5 => split (decide (n6 ≥ 0)) (nilC (some ⟨X, 0, none⟩) (fun a7 => ldL h5 (Addr.add a7 1) (fun p8 k9 k10 => idx p8 k9 n6 3 (fun a11 => ldL h5 (Addr.add a11 1) (fun p12 k13 k14 => idx p12 k13 f 1 (fun a15 => stC h5 (Addr.add a15 0) (.int .i64 v) (fun h16 => K h16))))))) (K h5)) := by
  refine ref4_Find_C hs hi hlen (split_of (fun h1 => ?_) fun h1 => hk h R rfl rfl rfl (by rw [set_id hi]; exact hs))
  simp at h1
  unfold Rf.find at h1 ⊢
  cases hfi : R.l.findIdx? (fun t => t.at_ == p) with
  | none => rw [hfi] at h1; exact absurd h1 (by decide)
  | some j =>
    simp only
    rw [List.findIdx?_eq_some_iff_getElem] at hfi
    obtain ⟨hj, h2, _⟩ := hfi
    have h2 : R.l[j].at_ = p := by simpa using h2
    have hroom := hroom R.l[j] (List.getElem_mem hj) h2
    obtain ⟨t, ht, hs0⟩ := rfA_open hs hi
    have hl : R.l.length = t.1.length := by rw [ht, List.length_map]
    have hi0 : (Γ.set i (blkA X 160 (rfV R t)))[i]? = some (blkA X 160 (rfV R t)) := at_set hi
    have eΓ : ∀ R', Γ.set i (rfA X R') = (Γ.set i (blkA X 160 (rfV R t))).set i (rfA X R') := fun R' => by rw [List.set_set]
    simp only [eΓ] at hk
    generalize Γ.set i (blkA X 160 (rfV R t)) = Δ at *
    have ho := rf_facts hi0 hs0
    have hjt : j < t.1.length := by omega
    have hRj : R.l[j] = t.1[j].2 := by
      have : R.l[j]? = (t.1.map (·.2))[j]? := by rw [ht]
      rw [List.getElem?_map] at this
      simp [hj, hjt] at this
      exact this
    rw [hRj] at hroom
    refine nL ho.own rfl (thing_idx ho.things (by omega) (s := t.1[j]) (by simp [hjt]) fun g o c1 c2 c3 => ?_)
    simp only [add_mk]
    refine ldL_of c2 (idx_of hf hroom ?_)
    simp only [add_mk, Nat.zero_add, Nat.add_zero, Nat.mul_one]
    have hw := ho.words t.1[j] (List.getElem_mem hjt)
    refine stC_of hw (by simp; omega) ?_
    have hw2 := hw.set f.toNat (.int .i64 v)
    rw [← List.map_set] at hw2
    have ew : (Δ ++ rfParts R t)[Δ.length + 2]? = some (wsA 2 (thW t.1)) := at_end
    have hkth : (thW t.1)[j]? = some (t.1[j].1, t.1[j].2.w.map (Value.int .i64 ·)) := by
      unfold thW
      rw [List.getElem?_map]
      simp [hjt]
    have hs1 := wsA_set hs0 ew hkth (Fr.set h ⟨t.1[j].1, f.toNat, none⟩ (.int .i64 v)) hw2
    rw [set_end] at hs1
    generalize setC h ⟨t.1[j].1, f.toNat, none⟩ (.int .i64 v) = g2 at *
    -- the arena with the word
    refine hk g2 ⟨R.cl, R.l.set j { t.1[j].2 with w := t.1[j].2.w.set f.toNat v }⟩ rfl ?_ ?_ ?_
    · simp only [List.map_set]
      refine List.ext_getElem? fun k => ?_
      by_cases e : j = k
      · subst e; rw [List.getElem?_set_self (by simpa using hj), List.getElem?_map]; simp [hj, hRj]
      · rw [List.getElem?_set_ne e]
    · simp only [List.map_set, List.length_set]
      refine List.ext_getElem? fun k => ?_
      by_cases e : j = k
      · subst e; rw [List.getElem?_set_self (by simpa using hj), List.getElem?_map]; simp [hj, hRj]
      · rw [List.getElem?_set_ne e]
    · refine rfA_close (t := (t.1.set j (t.1[j].1, { t.1[j].2 with w := t.1[j].2.w.set f.toNat v }), t.2)) ?_ ?_ hi0 ?_
      · simp only [List.map_set, ht]
      · simp [rfV]
      · have e1 : thC (t.1.set j (t.1[j].1, { t.1[j].2 with w := t.1[j].2.w.set f.toNat v })) = thC t.1 := by
          exact thC_same (s := t.1[j]) (by simp [hjt]) rfl rfl (by simp) rfl
        have e2 : thW (t.1.set j (t.1[j].1, { t.1[j].2 with w := t.1[j].2.w.set f.toNat v })) = (thW t.1).set j (t.1[j].1, (t.1[j].2.w.set f.toNat v).map (Value.int .i64 ·)) := by
          simp only [thW, List.map_set]
        have : rfParts ⟨R.cl, R.l.set j { t.1[j].2 with w := t.1[j].2.w.set f.toNat v }⟩ (t.1.set j (t.1[j].1, { t.1[j].2 with w := t.1[j].2.w.set f.toNat v }), t.2) = (rfParts R t).set 2 (wsA 2 ((thW t.1).set j (t.1[j].1, (t.1[j].2.w.set f.toNat v).map (Value.int .i64 ·)))) := by
          simp only [rfParts, e1, e2, List.length_set]
          rfl
        rw [this]
        exact hs1

end
end Go.Proofs.YtkfdbgpegekcfaaGreatDoorP

namespace Go.Proofs.YtkfdbgpegekcfaaGreatDoorP
open Go Go.GL Go.GLM Go.Proofs Go.Maps
attribute [local irreducible] rawV rawN rawU Tryz.prog

/-- A thing as the statement is given it: its shape, its words, what it leads to. -/
abbrev Th7 := Int × Int × List Int

/-- The things as they lie in an argument. -/
def ThAt (h : H) (p : Option Addr) (l : List Th7) : Prop :=
  l = [] ∨ ∃ a, p = some a ∧ ∀ j x, l[j]? = some x → ∃ q c, cell h ((a.add (j * 3)).add 0) = some (.int .i64 x.1) ∧ cell h ((a.add (j * 3)).add 1) = some (.int .i64 x.2.1) ∧ cell h ((a.add (j * 3)).add 2) = some (.slice q x.2.2.length c) ∧ Src h 1 q x.2.2.length c (x.2.2.map (Value.int .i64 ·))

theorem ThAt.fr {h h' : H} {p : Option Addr} {l : List Th7} (ht : ThAt h p l) (hc : ∀ a v, cell h a = some v → cell h' a = some v) : ThAt h' p l := by
  rcases ht with h1 | ⟨a, rfl, h1⟩
  · exact .inl h1
  · refine .inr ⟨a, rfl, fun j x hj => ?_⟩
    obtain ⟨q, c, c1, c2, c3, c4⟩ := h1 j x hj
    exact ⟨q, c, hc _ _ c1, hc _ _ c2, hc _ _ c3, c4.fr hc⟩

theorem th_idx {h : H} {p : Option Addr} {l : List Th7} (ht : ThAt h p l) {j : Int} (h0 : 0 ≤ j) {x : Th7} (hj : l[j.toNat]? = some x) {K : Addr → Prop}
    (hk : ∀ a q c, cell h (a.add 0) = some (.int .i64 x.1) → cell h (a.add 1) = some (.int .i64 x.2.1) → cell h (a.add 2) = some (.slice q x.2.2.length c) → Src h 1 q x.2.2.length c (x.2.2.map (Value.int .i64 ·)) → K a) : idx p l.length j 3 K := by
  have hlt := (List.getElem?_eq_some_iff.1 hj).1
  rcases ht with rfl | ⟨a, rfl, h1⟩
  · simp at hlt
  · obtain ⟨q, c, c1, c2, c3, c4⟩ := h1 j.toNat x hj
    exact ⟨a, rfl, h0, by omega, hk _ q c c1 c2 c3 c4⟩

theorem src_idx {h : H} {p : Option Addr} {n c : Nat} {xs : List Int} (hs : Src h 1 p n c (xs.map (Value.int .i64 ·))) {j : Int} (h0 : 0 ≤ j) {x : Int} (hj : xs[j.toNat]? = some x) {K : Addr → Prop} (hk : ∀ a, cell h a = some (.int .i64 x) → K a) : idx p n j 1 K := by
  have hlt := (List.getElem?_eq_some_iff.1 hj).1
  have hl := hs.1
  simp at hl
  rcases hs.2 with ⟨_, h1, _⟩ | ⟨a, rfl, h1⟩
  · omega
  · refine ⟨a, rfl, h0, by omega, hk _ ?_⟩
    rw [Nat.mul_one]
    exact h1 _ _ (by rw [List.getElem?_map, hj]; rfl)

/-- What a field is given. -/
def valOf (at_ : List Int) (v : Int) : Int := if 0 ≤ v ∧ v < at_.length then (at_[v.toNat]?).getD 0 else v
def fillF (at_ : List Int) (p : Int) (to : List Int) (a : Ar) : Nat → Ar
  | 0 => a
  | f + 1 => (fillF at_ p to a f).put p (1 + f) (valOf at_ ((to[f]?).getD 0))
def kindOf (k : Int) : Int := ((shapeL[k.toNat]?).map (·.1)).getD 0
def fillT (at_ : List Int) (a : Ar) (x : Th7) (p : Int) : Ar :=
  if p = 0 then a else fillF at_ p x.2.2 (a.put p 0 (szOf x.1 x.2.1 + 128 * kindOf (kOf x.1) + 1024 * kOf x.1)) (min x.2.2.length (szOf x.1 x.2.1 - 1).toNat)
def fillAll (at_ : List Int) (l : List Th7) (a : Ar) : Nat → Ar
  | 0 => a
  | i + 1 => fillT at_ (fillAll at_ l a i) ((l[i]?).getD (0, 0, [])) ((at_[i]?).getD 0)

/-- The reference's things have room for what is filled in. -/
def Rm (R : Rf) (at_ : List Int) (l : List Th7) : Prop := R.l.length ≤ 1000000 ∧ ∀ t ∈ R.l, ∀ (i : Nat) (x : Th7), l[i]? = some x → at_[i]? = some t.at_ → szOf x.1 x.2.1 ≤ t.w.length

theorem Rm.pres {R R' : Rf} {at_ : List Int} {l : List Th7} (h : Rm R at_ l) (h1 : R'.l.map (·.at_) = R.l.map (·.at_)) (h2 : R'.l.map (fun t => t.w.length) = R.l.map (fun t => t.w.length)) : Rm R' at_ l := by
  have hl : R'.l.length = R.l.length := by have := congrArg List.length h1; simpa using this
  refine ⟨by rw [hl]; exact h.1, fun t ht i x hi hat => ?_⟩
  obtain ⟨j, hj⟩ := List.getElem?_of_mem ht
  have hjl := (List.getElem?_eq_some_iff.1 hj).1
  have e1 : (R'.l.map (·.at_))[j]? = (R.l.map (·.at_))[j]? := by rw [h1]
  have e2 : (R'.l.map (fun t => t.w.length))[j]? = (R.l.map (fun t => t.w.length))[j]? := by rw [h2]
  rw [List.getElem?_map, List.getElem?_map, hj] at e1 e2
  have hjr : j < R.l.length := by omega
  simp [hjr] at e1 e2
  have := h.2 R.l[j] (List.getElem_mem hjr) i x hi (by rw [← e1]; exact hat)
  omega

/-- The blocks of a world. -/
structure WC where
  (A B W T Q M X MK L S S4 Y G : Nat)

/-- The parts of a world. -/
def wG (h0 : H) (c : WC) (n : Nat) (a : Ar) (ts : List Shp) (R : Rf) (p8 : Option Addr) (c8 : Nat) (q : Option Addr) (cq : Nat) (at_ : List Int) : List Asrt :=
  [oldA h0, arA c.A c.B c.W a, tbA c.T ts, quA c.Q [], blkA c.M 99 [.pointer (some ⟨c.A, 0, none⟩), .pointer (some ⟨c.T, 0, none⟩), .pointer (some ⟨c.Q, 0, none⟩)], rfA c.X R,
   blkA c.MK 76 (rmV (.pointer (some ⟨c.X, 0, none⟩)) p8 ts.length c8 (.slice none 0 0)), alA c.L c.S c.A n, blkA c.S4 4 (List.replicate n (.bool false)), blkA c.Y 165 (ralV c.X c.S4 n), blkA c.G 86 (shC shapeL),
   rowA 88 3 p8 ts.length c8 (shC ts), rowA 2 1 q at_.length cq (at_.map (Value.int .i64 ·))]

section
variable {h : H} {Γ : List Asrt} {i ia X A B W : Nat} {R : Rf} {a : Ar}

theorem law7_put_S (hs : Sat h Γ) (hia : Γ[ia]? = some (arA A B W a)) (hi : Γ[i]? = some (rfA X R)) (hne : ia ≠ i) (hlen : R.l.length ≤ 1000000) {p f v : Int} (hf : 0 ≤ f) (hroom : ∀ t ∈ R.l, t.at_ = p → f < t.w.length) {K : H → Prop}
    (hk : ∀ h' R', R'.cl = R.cl → R'.l.map (·.at_) = R.l.map (·.at_) → R'.l.map (fun t => t.w.length) = R.l.map (fun t => t.w.length) → Sat h' ((Γ.set ia (arA A B W (a.put p f v))).set i (rfA X R')) → K h') :
    gantlinelaw7_put.C (some ⟨A, 0, none⟩) (some ⟨X, 0, none⟩) p f v h K := by
  refine gantlinelaw7_put.of ?_
  unfold gantlinelaw7_put.S
  refine write_C hs hia (fun h1 => ?_) fun h1 h' hs' => ?_
  · have e : a.put p f v = a := by unfold Ar.put; rw [if_neg (by rw [h1]; decide)]
    rw [e, set_id hia] at hk
    exact put_both hs hi hlen hf hroom fun h2 R' q1 q2 q3 hs2 => hk h2 R' q1 q2 q3 hs2
  · exact put_both hs' (at_ne hi hne) hlen hf hroom fun h2 R' q1 q2 q3 hs2 => hk h2 R' q1 q2 q3 hs2

variable {h0 : H} {c : WC} {n : Nat} {ts : List Shp} {p8 q : Option Addr} {c8 cq : Nat} {at_ : List Int} {l : List Th7} {xp : Option Addr} {g : H}

theorem world_loop4 (ha : ThAt h0 xp l) {i : Int} (i0 : 0 ≤ i) {x : Th7} (hx : l[i.toNat]? = some x) {p : Int} (hp : at_[i.toNat]? = some p) (hal : at_.length ≤ 1000) {R0 : Rf} {a0 : Ar}
    (hrm : Rm R0 at_ l) (hs : Sat g (wG h0 c n a0 ts R0 p8 c8 q cq at_)) {J : H → Prop}
    (hJ : ∀ h' R', Rm R' at_ l → Sat h' (wG h0 c n (fillF at_ p x.2.2 a0 (min x.2.2.length (szOf x.1 x.2.1 - 1).toNat)) ts R' p8 c8 q cq at_) → J h') :
    loopT (σ := (Int × Unit)) (fun J136 s137 h138 => joinP (fun (h139 : H) => joinP (fun (h140 : H) => J136 ((IntKind.wrap .i64 (s137.1 + 1)), ()) h140) (fun J141 => idx xp l.length i 3 (fun a142 => ldL h139 (Addr.add a142 2) (fun p143 k144 k145 => idx p143 k144 s137.1 1 (fun a146 => ldI h139 a146 .i64 (fun n147 => joinP (fun (n148 : Int) (h149 : H) => nilC (some ⟨c.MK, 0, none⟩) (fun a150 => idx q at_.length i 1 (fun a151 => ldP h149 (Addr.add a150 0) (fun p152 => ldI h149 a151 .i64 (fun n153 => gantlinelaw7_put.C (some ⟨c.A, 0, none⟩) p152 n153 (IntKind.wrap .i64 (1 + s137.1)) n148 h149 (fun h155 => J141 h155)))))) (fun J156 => idx xp l.length i 3 (fun a157 => ldL h139 (Addr.add a157 2) (fun p158 k159 k160 => idx p158 k159 s137.1 1 (fun a161 => ldI h139 a161 .i64 (fun n162 => split (decide (n162 ≥ 0)) (idx xp l.length i 3 (fun a163 => ldL h139 (Addr.add a163 2) (fun p164 k165 k166 => idx p164 k165 s137.1 1 (fun a167 => ldI h139 a167 .i64 (fun n168 => split (decide (n168 < ((at_.length : Nat) : Int))) (idx xp l.length i 3 (fun a169 => ldL h139 (Addr.add a169 2) (fun p170 k171 k172 => idx p170 k171 s137.1 1 (fun a173 => ldI h139 a173 .i64 (fun n174 => idx q at_.length n174 1 (fun a175 => ldI h139 a175 .i64 (fun n176 => J156 n176 h139))))))) (J156 n147 h139)))))) (J156 n147 h139)))))))))))) (fun J177 => idx xp l.length i 3 (fun a178 => ldL h138 (Addr.add a178 2) (fun p179 k180 k181 => split (decide (s137.1 < ((k180 : Nat) : Int))) (idx xp l.length i 3 (fun a182 => ldI h138 (Addr.add a182 0) .i64 (fun n183 => ldI h138 (Addr.add a182 1) .i64 (fun n184 => ldL h138 (Addr.add a182 2) (fun p185 k186 k187 => gantlinelaw7_size.C n183 n184 p185 k186 k187 h138 (fun n190 h189 => split (decide (s137.1 < (IntKind.wrap .i64 (n190 - 1)))) (J177 h189) (J h189))))))) (J h138))))) (0, ()) g := by
  unfold joinP
  have hsz := szOf_bd x.1 x.2.1
  refine loop_of (fun t h' => ∃ R', 0 ≤ t.1 ∧ t.1 ≤ min x.2.2.length (szOf x.1 x.2.1 - 1).toNat ∧ Rm R' at_ l ∧ Sat h' (wG h0 c n (fillF at_ p x.2.2 a0 t.1.toNat) ts R' p8 c8 q cq at_)) (fun t _ => (min x.2.2.length (szOf x.1 x.2.1 - 1).toNat - t.1).toNat)
    ⟨R0, by simp, by simp, hrm, hs⟩ ?_
  rintro ⟨f, _⟩ h1 ⟨R, f0, f1, hrm1, hs1⟩
  simp only at f0 f1 hs1 ⊢
  have arg : ∀ {h' : H} {R' a'}, Sat h' (wG h0 c n a' ts R' p8 c8 q cq at_) → ThAt h' xp l := fun hs' => ha.fr fun _ _ hc => Sat.oldCell hs' (i := 0) rfl hc
  refine th_idx (arg hs1) i0 hx fun ad qx cx c1 c2 c3 c4 => ldL_of c3 (split_of (fun h2 => ?_) fun h2 => ?_)
  · simp at h2
    refine th_idx (arg hs1) i0 hx fun ad qx cx c1 c2 c3 c4 => ldI_of c1 (ldI_of c2 (ldL_of c3 (law7_size_C fun g1 f1' => ?_)))
    have hs2 := hs1.fr f1'
    rw [wrap64_id (by omega) (by omega)]
    refine split_of (fun h3 => ?_) fun h3 => ?_
    · simp at h3
      have hft : f.toNat < x.2.2.length := by omega
      have hxf : x.2.2[f.toNat]? = some x.2.2[f.toNat] := by simp [hft]
      -- the word is put
      have fin : ∀ (v : Int), v = valOf at_ x.2.2[f.toNat] → ∀ {KK : H → Prop}, (∀ h' R', Rm R' at_ l → Sat h' (wG h0 c n (fillF at_ p x.2.2 a0 (f.toNat + 1)) ts R' p8 c8 q cq at_) → KK h') →
          nilC (some ⟨c.MK, 0, none⟩) (fun a150 => idx q at_.length i 1 (fun a151 => ldP g1 (Addr.add a150 0) (fun p152 => ldI g1 a151 .i64 (fun n153 => gantlinelaw7_put.C (some ⟨c.A, 0, none⟩) p152 n153 (IntKind.wrap .i64 (1 + f)) v g1 (fun h155 => KK h155))))) := by
        intro v hv KK hKK
        refine nilC_of (rowA_idx hs2 (i := 12) rfl (x := .int .i64 p) i0 (by rw [List.getElem?_map, hp]; rfl) fun ad2 had => ?_)
        refine lP (blkA_at hs2 (i := 6) rfl) rfl (ldI_of had ?_)
        rw [wrap64_id (by omega) (by omega)]
        refine law7_put_S hs2 (ia := 1) (i := 5) rfl rfl (by decide) hrm1.1 (by omega) (fun t ht htp => ?_) fun g2 R' q1 q2 q3 hs3 => ?_
        · have := hrm1.2 t ht i.toNat x hx (by rw [htp]; exact hp)
          omega
        · refine hKK g2 R' (hrm1.pres q2 q3) ?_
          have e : fillF at_ p x.2.2 a0 (f.toNat + 1) = (fillF at_ p x.2.2 a0 f.toNat).put p (1 + f) v := by
            rw [hv]
            show (fillF at_ p x.2.2 a0 f.toNat).put p (1 + (f.toNat : Nat)) (valOf at_ ((x.2.2[f.toNat]?).getD 0)) = _
            rw [hxf, Option.getD_some, show (1 + ((f.toNat : Nat) : Int)) = 1 + f from by omega]
          rw [e]
          exact hs3
      have next : ∀ h' R', Rm R' at_ l → Sat h' (wG h0 c n (fillF at_ p x.2.2 a0 (f.toNat + 1)) ts R' p8 c8 q cq at_) →
          (∃ R', 0 ≤ IntKind.wrap .i64 (f + 1) ∧ IntKind.wrap .i64 (f + 1) ≤ min x.2.2.length (szOf x.1 x.2.1 - 1).toNat ∧ Rm R' at_ l ∧ Sat h' (wG h0 c n (fillF at_ p x.2.2 a0 (IntKind.wrap .i64 (f + 1)).toNat) ts R' p8 c8 q cq at_)) ∧
          (min x.2.2.length (szOf x.1 x.2.1 - 1).toNat - IntKind.wrap .i64 (f + 1)).toNat < (min x.2.2.length (szOf x.1 x.2.1 - 1).toNat - f).toNat := by
        intro h' R' hr' hs'
        rw [wrap64_id (by omega) (by omega)]
        refine ⟨⟨R', by omega, by omega, hr', ?_⟩, by omega⟩
        rw [show (f + 1).toNat = f.toNat + 1 from by omega]
        exact hs'
      refine th_idx (arg hs2) i0 hx fun ad qx cx c1 c2 c3 c4 => ldL_of c3 (src_idx c4 f0 hxf fun ad2 had2 => ldI_of had2 ?_)
      refine th_idx (arg hs2) i0 hx fun ad qx cx c1 c2 c3 c4 => ldL_of c3 (src_idx c4 f0 hxf fun ad2 had2 => ldI_of had2 (split_of (fun h4 => ?_) fun h4 => ?_))
      · refine th_idx (arg hs2) i0 hx fun ad qx cx c1 c2 c3 c4 => ldL_of c3 (src_idx c4 f0 hxf fun ad2 had2 => ldI_of had2 (split_of (fun h5 => ?_) fun h5 => ?_))
        · simp at h4 h5
          have hv : at_[(x.2.2[f.toNat]).toNat]? = some (at_[(x.2.2[f.toNat]).toNat]'(by omega)) := by simp
          refine th_idx (arg hs2) i0 hx fun ad qx cx c1 c2 c3 c4 => ldL_of c3 (src_idx c4 f0 hxf fun ad2 had2 => ldI_of had2 ?_)
          refine rowA_idx hs2 (i := 12) rfl (x := .int .i64 (at_[(x.2.2[f.toNat]).toNat]'(by omega))) h4 (by rw [List.getElem?_map, hv]; rfl) fun ad3 had3 => ldI_of had3 ?_
          exact fin _ (by unfold valOf; rw [if_pos ⟨h4, h5⟩, hv]; rfl) next
        · simp at h5
          exact fin _ (by unfold valOf; rw [if_neg (by omega)]) next
      · simp at h4
        exact fin _ (by unfold valOf; rw [if_neg (by omega)]) next
    · simp at h3
      obtain rfl : f = min x.2.2.length (szOf x.1 x.2.1 - 1).toNat := by omega
      exact hJ g1 R hrm1 (by simpa using hs2)
  · simp at h2
    obtain rfl : f = min x.2.2.length (szOf x.1 x.2.1 - 1).toNat := by omega
    exact hJ h1 R hrm1 (by simpa using hs1)

end
end Go.Proofs.YtkfdbgpegekcfaaGreatDoorP

namespace Go.Proofs.YtkfdbgpegekcfaaGreatDoorP
open Go Go.GL Go.GLM Go.Proofs Go.Maps
attribute [local irreducible] rawV rawN rawU Tryz.prog

section
variable {h0 : H} {c : WC} {n : Nat} {ts : List Shp} {p8 q : Option Addr} {c8 cq : Nat} {at_ : List Int} {l : List Th7} {xp : Option Addr} {g : H}

theorem kind_at (k : Int) (h0 : 0 ≤ k) (h6 : k < 6) : ∃ s : Shp, shapeL[k.toNat]? = some s ∧ s.1 = kindOf k ∧ 0 ≤ s.1 ∧ s.1 ≤ 1 := by
  have : k = 0 ∨ k = 1 ∨ k = 2 ∨ k = 3 ∨ k = 4 ∨ k = 5 := by omega
  rcases this with rfl | rfl | rfl | rfl | rfl | rfl
  all_goals exact ⟨_, rfl, rfl, by decide, by decide⟩

theorem world_loop3 (ha : ThAt h0 xp l) (hl : l.length ≤ 1000) (hal : at_.length = l.length) {R0 : Rf} {a0 : Ar}
    (hrm : Rm R0 at_ l) (hs : Sat g (wG h0 c n a0 ts R0 p8 c8 q cq at_)) {K : Option Addr → Option Addr → Option Addr → Option Addr → Nat → Nat → H → Prop}
    (hK : ∀ h' R', Sat h' (wG h0 c n (fillAll at_ l a0 l.length) ts R' p8 c8 q cq at_) → K (some ⟨c.M, 0, none⟩) (some ⟨c.MK, 0, none⟩) (some ⟨c.A, 0, none⟩) q at_.length cq h') :
    loopT (σ := (Int × Unit)) (fun J102 s103 h104 => split (decide (s103.1 < ((l.length : Nat) : Int))) (joinP (fun (h105 : H) => J102 ((IntKind.wrap .i64 (s103.1 + 1)), ()) h105) (fun J106 => idx q at_.length s103.1 1 (fun a107 => ldI h104 a107 .i64 (fun n108 => split (n108 == 0) (J106 h104) (idx xp l.length s103.1 3 (fun a109 => ldI h104 (Addr.add a109 0) .i64 (fun n110 => need (((6 : Int) ≠ 0)) (idx xp l.length s103.1 3 (fun a111 => idx (some ⟨c.G, 0, none⟩) 6 (Int.tmod (bitsI .and .i64 n110 7) 6) 3 (fun a112 => ldI h104 (Addr.add a111 0) .i64 (fun n113 => ldI h104 (Addr.add a111 1) .i64 (fun n114 => ldL h104 (Addr.add a111 2) (fun p115 k116 k117 => ldI h104 (Addr.add a112 0) .i64 (fun n118 => gantlinelaw7_size.C n113 n114 p115 k116 k117 h104 (fun n121 h120 => need (ldI h120 (Addr.add a112 0) .i64 (fun n122 => ((.int .i64 n122) : Value) = (.int .i64 n118))) (head_Pack.C n121 n118 (Int.tmod (bitsI .and .i64 n110 7) 6) h120 (fun n127 n128 h124 => need (ldI h124 (Addr.add a112 0) .i64 (fun n129 => ((.int .i64 n129) : Value) = (.int .i64 n118))) (nilC (some ⟨c.MK, 0, none⟩) (fun a130 => idx q at_.length s103.1 1 (fun a131 => ldP h124 (Addr.add a130 0) (fun p132 => ldI h124 a131 .i64 (fun n133 => gantlinelaw7_put.C (some ⟨c.A, 0, none⟩) p132 n133 0 n127 h124 (fun h135 => loopT (σ := (Int × Unit)) (fun J136 s137 h138 => joinP (fun (h139 : H) => joinP (fun (h140 : H) => J136 ((IntKind.wrap .i64 (s137.1 + 1)), ()) h140) (fun J141 => idx xp l.length s103.1 3 (fun a142 => ldL h139 (Addr.add a142 2) (fun p143 k144 k145 => idx p143 k144 s137.1 1 (fun a146 => ldI h139 a146 .i64 (fun n147 => joinP (fun (n148 : Int) (h149 : H) => nilC (some ⟨c.MK, 0, none⟩) (fun a150 => idx q at_.length s103.1 1 (fun a151 => ldP h149 (Addr.add a150 0) (fun p152 => ldI h149 a151 .i64 (fun n153 => gantlinelaw7_put.C (some ⟨c.A, 0, none⟩) p152 n153 (IntKind.wrap .i64 (1 + s137.1)) n148 h149 (fun h155 => J141 h155)))))) (fun J156 => idx xp l.length s103.1 3 (fun a157 => ldL h139 (Addr.add a157 2) (fun p158 k159 k160 => idx p158 k159 s137.1 1 (fun a161 => ldI h139 a161 .i64 (fun n162 => split (decide (n162 ≥ 0)) (idx xp l.length s103.1 3 (fun a163 => ldL h139 (Addr.add a163 2) (fun p164 k165 k166 => idx p164 k165 s137.1 1 (fun a167 => ldI h139 a167 .i64 (fun n168 => split (decide (n168 < ((at_.length : Nat) : Int))) (idx xp l.length s103.1 3 (fun a169 => ldL h139 (Addr.add a169 2) (fun p170 k171 k172 => idx p170 k171 s137.1 1 (fun a173 => ldI h139 a173 .i64 (fun n174 => idx q at_.length n174 1 (fun a175 => ldI h139 a175 .i64 (fun n176 => J156 n176 h139))))))) (J156 n147 h139)))))) (J156 n147 h139)))))))))))) (fun J177 => idx xp l.length s103.1 3 (fun a178 => ldL h138 (Addr.add a178 2) (fun p179 k180 k181 => split (decide (s137.1 < ((k180 : Nat) : Int))) (idx xp l.length s103.1 3 (fun a182 => ldI h138 (Addr.add a182 0) .i64 (fun n183 => ldI h138 (Addr.add a182 1) .i64 (fun n184 => ldL h138 (Addr.add a182 2) (fun p185 k186 k187 => gantlinelaw7_size.C n183 n184 p185 k186 k187 h138 (fun n190 h189 => split (decide (s137.1 < (IntKind.wrap .i64 (n190 - 1)))) (J177 h189) (J106 h189))))))) (J106 h138))))) (0, ()) h135))))))))))))))))))))))) (K (some ⟨c.M, 0, none⟩) (some ⟨c.MK, 0, none⟩) (some ⟨c.A, 0, none⟩) q at_.length cq h104)) (0, ()) g := by
  refine loop_of (fun t h' => ∃ R', 0 ≤ t.1 ∧ t.1 ≤ l.length ∧ Rm R' at_ l ∧ Sat h' (wG h0 c n (fillAll at_ l a0 t.1.toNat) ts R' p8 c8 q cq at_)) (fun t _ => (l.length - t.1).toNat) ⟨R0, by simp, by simp, hrm, hs⟩ ?_
  rintro ⟨i, _⟩ h1 ⟨R, i0, i1, hrm1, hs1⟩
  simp only at i0 i1 hs1 ⊢
  have arg : ∀ {h' : H} {R' a'}, Sat h' (wG h0 c n a' ts R' p8 c8 q cq at_) → ThAt h' xp l := fun hs' => ha.fr fun _ _ hc => Sat.oldCell hs' (i := 0) rfl hc
  refine split_of (fun h2 => ?_) fun h2 => ?_
  · simp at h2
    have hlt : i.toNat < l.length := by omega
    have hx : l[i.toNat]? = some l[i.toNat] := by simp [hlt]
    have hp : at_[i.toNat]? = some (at_[i.toNat]'(by omega)) := by simp
    have hmem : l[i.toNat] ∈ l := List.getElem_mem hlt
    have hstep : fillAll at_ l a0 (i.toNat + 1) = fillT at_ (fillAll at_ l a0 i.toNat) l[i.toNat] (at_[i.toNat]'(by omega)) := by
      show fillT at_ (fillAll at_ l a0 i.toNat) ((l[i.toNat]?).getD (0, 0, [])) ((at_[i.toNat]?).getD 0) = _
      rw [hx, hp]
      rfl
    generalize l[i.toNat] = x at *
    generalize at_[i.toNat]'(by omega) = p at *
    have hwr : IntKind.wrap .i64 (i + 1) = i + 1 := wrap64_id (by omega) (by omega)
    unfold joinP
    rw [hwr]
    have next : ∀ h' R', Rm R' at_ l → Sat h' (wG h0 c n (fillT at_ (fillAll at_ l a0 i.toNat) x p) ts R' p8 c8 q cq at_) →
        (∃ R', 0 ≤ i + 1 ∧ i + 1 ≤ l.length ∧ Rm R' at_ l ∧ Sat h' (wG h0 c n (fillAll at_ l a0 (i + 1).toNat) ts R' p8 c8 q cq at_)) ∧ (l.length - (i + 1)).toNat < (l.length - i).toNat := by
      intro h' R' hr' hs'
      refine ⟨⟨R', by omega, by omega, hr', ?_⟩, by omega⟩
      rw [show (i + 1).toNat = i.toNat + 1 from by omega, hstep]
      exact hs'
    refine rowA_idx hs1 (i := 12) rfl (x := .int .i64 p) i0 (by rw [List.getElem?_map, hp]; rfl) fun ad had => ldI_of had (split_of (fun h3 => ?_) fun h3 => ?_)
    · simp at h3
      exact next h1 R hrm1 (by unfold fillT; rw [if_pos h3]; exact hs1)
    · simp at h3
      have hk := kOf_bd x.1
      obtain ⟨s, hs_, hkd, hk0, hk1⟩ := kind_at (kOf x.1) hk.1 hk.2
      have hsz := szOf_bd x.1 x.2.1
      refine th_idx (arg hs1) i0 hx fun ad qx cx c1 c2 c3 c4 => ldI_of c1 (need_of (by decide) ?_)
      rw [tmod6]
      refine th_idx (arg hs1) i0 hx fun ad qx cx c1 c2 c3 c4 => idx_of hk.1 hk.2 (ldI_of c1 (ldI_of c2 (ldL_of c3 ?_)))
      have cellG : ∀ {h' : H} {R' a'}, Sat h' (wG h0 c n a' ts R' p8 c8 q cq at_) → cell h' ⟨c.G, 0 + (kOf x.1).toNat * 3 + 0, none⟩ = some (.int .i64 s.1) := fun hs' => by
        rw [(blkA_at hs' (i := 10) rfl).cell, Nat.zero_add, Nat.add_zero]
        exact (shC_get hs_).1
      simp only [add_mk]
      refine ldI_of (cellG hs1) (law7_size_C fun g1 f1 => ?_)
      have hs2 := hs1.fr f1
      refine need_of (ldI_of (cellG hs2) rfl) (head_Pack_C (fun hno => ?_) fun _ g2 f2 => ?_)
      · exfalso
        unfold mayHd at hno
        simp at hno
        omega
      have hs3 := hs2.fr f2
      refine need_of (ldI_of (cellG hs3) rfl) (nilC_of (rowA_idx hs3 (i := 12) rfl (x := .int .i64 p) i0 (by rw [List.getElem?_map, hp]; rfl) fun ad2 had2 => ?_))
      refine lP (blkA_at hs3 (i := 6) rfl) rfl (ldI_of had2 ?_)
      refine law7_put_S hs3 (ia := 1) (i := 5) rfl rfl (by decide) hrm1.1 (by decide) (fun t ht htp => ?_) fun g4 R' q1 q2 q3 hs4 => ?_
      · have := hrm1.2 t ht i.toNat x hx (by rw [htp]; exact hp)
        omega
      · rw [hkd] at hs4
        refine world_loop4 ha i0 hx hp (by omega) (hrm1.pres q2 q3) hs4 fun h' R2 hr2 hs5 => next h' R2 hr2 ?_
        unfold fillT
        rw [if_neg h3]
        exact hs5
  · simp at h2
    obtain rfl : i = l.length := by omega
    rw [Int.toNat_natCast] at hs1
    exact hK h1 R hs1

end
end Go.Proofs.YtkfdbgpegekcfaaGreatDoorP

namespace Go.Proofs.YtkfdbgpegekcfaaGreatDoorP
open Go Go.GL Go.GLM Go.Proofs

/-- An arena as the statements have it: words in bounds, taken below the places, classes in bounds. -/
structure Ar.Fine (a : Ar) : Prop where
  good : a.Good
  small : a.sp.length ≤ 512
  cl : ∀ s ∈ a.sp, -1 ≤ s.1
  wf : a.Wf

/-- Nothing is marked. -/
def Ar.Bare (a : Ar) : Prop := ∀ s ∈ a.sp, s.2.2 = 0

theorem Ar.Bare.mrk {a : Ar} (h : a.Bare) (i : Int) : a.mrk i = 0 := by
  unfold Ar.mrk
  cases hx : a.sp[i.toNat]? with
  | none => rfl
  | some s => exact h s (List.mem_of_getElem? hx)

section
variable {a : Ar}

theorem takeAt_wf (h : a.Wf) (i : Int) (k : Nat) : (a.takeAt i k).Wf := by
  intro x hx
  simp only [Ar.takeAt, List.mem_append] at hx
  rcases hx with (hx | hx) | hx
  · exact h x (List.mem_of_mem_take hx)
  · rw [List.eq_of_mem_replicate hx]; omega
  · exact h x (List.mem_of_mem_drop hx)

theorem takeAt_cl (h : ∀ s ∈ a.sp, -1 ≤ s.1) (i : Int) (k : Nat) : ∀ s ∈ (a.takeAt i k).sp, -1 ≤ s.1 := by
  intro s hs
  simp only [Ar.takeAt] at hs
  rcases List.mem_or_eq_of_mem_set hs with h1 | h1
  · exact h s h1
  · subst h1
    unfold Ar.clsAt
    split
    · cases hx : a.sp[i.toNat]? with
      | none => exact Int.le_refl _
      | some s => exact h s (List.mem_of_getElem? hx)
    · exact Int.le_refl _

theorem takeAt_bare (h : a.Bare) (i : Int) (k : Nat) : (a.takeAt i k).Bare := by
  intro s hs
  simp only [Ar.takeAt] at hs
  rcases List.mem_or_eq_of_mem_set hs with h1 | h1
  · exact h s h1
  · subst h1
    show a.mrk i ^^^ (a.mrk i &&& 2 ^ k) = 0
    rw [h.mrk]
    simp

theorem setAt_cl (h : ∀ s ∈ a.sp, -1 ≤ s.1) (i : Int) {c : Int} (hc : -1 ≤ c) : ∀ s ∈ (a.setAt i c).sp, -1 ≤ s.1 := by
  intro s hs
  simp only [Ar.setAt] at hs
  rcases List.mem_or_eq_of_mem_set hs with h1 | h1
  · exact h s h1
  · subst h1; exact hc

theorem setAt_bare (h : a.Bare) (i c : Int) : (a.setAt i c).Bare := by
  intro s hs
  simp only [Ar.setAt] at hs
  rcases List.mem_or_eq_of_mem_set hs with h1 | h1
  · exact h s h1
  · subst h1; rfl

/-- What is said of a taken place. -/
structure AllocTo (a b : Ar) (w p : Int) : Prop where
  fine : b.Fine
  len : b.sp.length = a.sp.length
  keeps : ∀ x, a.is x = true → b.is x = true ∧ b.clsAt (spn x) = a.clsAt (spn x)
  only : ∀ x, b.is x = true → a.is x = true ∨ x = p
  made : p ≠ 0 → b.is p = true ∧ a.is p = false ∧ b.clsAt (spn p) = cls w
  bare : a.Bare → b.Bare

theorem takeAt_to (hf : a.Fine) {s w : Int} {k : Nat} (h1 : 1 ≤ s) (h2 : s < a.sp.length) (hc : a.clsAt s = cls w) (hk : (k : Int) < plc (cls w)) (hz : (a.tak s).testBit k = false) :
    AllocTo a (a.takeAt s k) w (s * 64 + k * wds (cls w)) := by
  have hh := has_of (a := a) h1 h2
  have hk' : (k : Int) < plc (a.clsAt s) := by rw [hc]; exact hk
  have hs5 := hf.small
  refine ⟨⟨takeAt_good hf.good hh hk', by simp [Ar.takeAt]; exact hs5, takeAt_cl hf.cl s k, takeAt_wf hf.wf s k⟩, by simp [Ar.takeAt], fun x hx => ⟨?_, takeAt_cls a s k hh _⟩, fun x hx => ?_, fun _ => ?_, fun hb => takeAt_bare hb s k⟩
  · rw [takeAt_is hs5 hh hk', hx]; rfl
  · rw [takeAt_is hs5 hh hk', hc] at hx
    simpa using hx
  · refine ⟨?_, ?_, ?_⟩
    · rw [takeAt_is hs5 hh hk', hc]; simp
    · have := is_adr (a := a) hs5 hh (p := k) (by omega) hk'
      rw [hc] at this
      rw [this, Int.toNat_natCast]
      exact hz
    · rw [takeAt_cls a s k hh, adr_spn h1 (by omega) (by omega) hk]
      exact hc

theorem alloc_to (hf : a.Fine) {w : Int} (hw : 0 ≤ cls w) : AllocTo a (a.alloc w).1 w (a.alloc w).2 := by
  have hcn : cls w ≠ -1 := by omega
  have hcb := cls_bd w
  have hs5 := hf.small
  cases hr : a.firstRoom (cls w) with
  | some i =>
    rw [alloc_room hcn hr]
    obtain ⟨j0, j1, j2, j3⟩ := firstRoom_some hr
    have hi1 : 1 ≤ i := by
      by_cases i0 : i = 0
      · subst i0; rw [show ((0 : Nat) : Int) = 0 from rfl, cls_zero] at j1; omega
      · omega
    have hh := has_of (a := a) (s := i) (by omega) (by omega)
    have htk := hf.good.at hh
    have hp := plc_bd (a.clsAt i)
    have h64 : a.tak i < 2 ^ 64 := Nat.lt_of_lt_of_le htk (Nat.pow_le_pow_right (by omega) (by omega))
    have hroom := hf.good.room hh (by rw [j1]; exact j2)
    exact takeAt_to hf (by omega) (by omega) j1 (by rw [← j1]; exact hroom) (firstZ_spec h64).1.1
  | none =>
    cases hff : a.firstFree with
    | some i =>
      rw [alloc_free hcn hr hff]
      obtain ⟨j0, j1, j2, j3⟩ := firstFree_some hff
      have hh := has_of (a := a) (s := i) (by omega) (by omega)
      have hc2 : (a.setAt i (cls w)).clsAt i = cls w := by rw [setAt_cls a hh, if_pos rfl]
      have ht2 : (a.setAt i (cls w)).tak i = 0 := by rw [setAt_tak a hh i (by omega), if_pos rfl]
      have hl2 : (a.setAt i (cls w)).sp.length = a.sp.length := by simp [Ar.setAt]
      have hf2 : (a.setAt i (cls w)).Fine := ⟨setAt_good hf.good i _, by rw [hl2]; exact hs5, setAt_cl hf.cl i (by omega), hf.wf⟩
      have hpp : (0 : Int) < plc (cls w) := by
        rcases cls_cases (cls w) with h | h | h | h | h | h | h
        all_goals first | omega | (rw [h]; decide)
      have := takeAt_to hf2 (s := i) (w := w) (k := 0) (by omega) (by rw [hl2]; omega) hc2 hpp (by rw [ht2]; simp)
      have e0 : (i : Int) * 64 + ((0 : Nat) : Int) * wds (cls w) = (i : Int) * 64 := by simp
      rw [e0] at this
      refine ⟨this.fine, this.len.trans hl2, fun x hx => ?_, fun x hx => ?_, fun hne => ?_, fun hb => this.bare (setAt_bare hb i _)⟩
      · obtain ⟨q1, q2⟩ := this.keeps x (by rw [setAt_is hh j2]; exact hx)
        refine ⟨q1, q2.trans ?_⟩
        rw [setAt_cls a hh]
        by_cases e : spn x = i
        · obtain ⟨s', p, r1, r2, r3, r4, r5, r6, r7, r8, r9⟩ := is_place hx
          rw [e] at r4; subst r4
          omega
        · rw [if_neg e]
      · have := this.only x hx
        rwa [setAt_is hh j2] at this
      · obtain ⟨q1, q2, q3⟩ := this.made hne
        rw [setAt_is hh j2] at q2
        exact ⟨q1, q2, q3⟩
    | none =>
      rw [alloc_full hcn hr hff]
      exact ⟨hf, rfl, fun x hx => ⟨hx, rfl⟩, fun x hx => .inl hx, fun h => absurd rfl h, fun h => h⟩

theorem not_is_zero : a.is 0 = false := by
  cases h : a.is 0 with
  | false => rfl
  | true =>
    obtain ⟨s, p, q1, q2, q3, q4, q5, q6, _⟩ := is_place h
    unfold Ar.has at q1
    simp at q1
    have : spn 0 = 0 := by decide
    omega

end

/-- Places for things, one behind the other. -/
def takesN (a : Ar) (ws : List Int) : Nat → Ar × List Int
  | 0 => (a, [])
  | i + 1 => (((takesN a ws i).1.alloc ((ws[i]?).getD 1)).1, (takesN a ws i).2 ++ [((takesN a ws i).1.alloc ((ws[i]?).getD 1)).2])

theorem takesN_len (a : Ar) (ws : List Int) (i : Nat) : (takesN a ws i).2.length = i := by
  induction i with
  | zero => rfl
  | succ i ih => simp [takesN, ih]

/-- What is said of places for things. -/
structure TakesTo (b : Ar) (ws at_ : List Int) : Prop where
  fine : b.Fine
  made : ∀ (i : Nat) (w p : Int), ws[i]? = some w → at_[i]? = some p → p ≠ 0 → b.is p = true ∧ b.clsAt (spn p) = cls w
  bare : b.Bare
  only : ∀ x, b.is x = true → x ∈ at_
  nd : (at_.filter (· != 0)).Nodup

theorem takesN_to {a : Ar} (hf : a.Fine) (hb : a.Bare) (hno : ∀ x, a.is x = false) {ws : List Int} (hw : ∀ w ∈ ws, 0 ≤ cls w) : ∀ i, i ≤ ws.length → TakesTo (takesN a ws i).1 ws (takesN a ws i).2 ∧ (takesN a ws i).1.sp.length = a.sp.length := by
  intro i
  induction i with
  | zero => exact fun _ => ⟨⟨hf, fun i w p _ hp => by simp [takesN] at hp, hb, (fun x hx => by rw [show (takesN a ws 0).1 = a from rfl, hno] at hx; cases hx), by simp [takesN]⟩, rfl⟩
  | succ i ih =>
    intro hi
    obtain ⟨h1, h2⟩ := ih (by omega)
    have hwi : ws[i]? = some (ws[i]'(by omega)) := by simp
    have hc := hw (ws[i]'(by omega)) (List.getElem_mem _)
    simp only [takesN, hwi, Option.getD_some]
    have hlen := takesN_len a ws i
    generalize takesN a ws i = r at *
    obtain ⟨b, at_⟩ := r
    simp only at *
    have hto := alloc_to h1.fine hc
    refine ⟨⟨hto.fine, fun j w p hj hp hp0 => ?_, hto.bare h1.bare, fun x hx => ?_, ?_⟩, hto.len.trans h2⟩
    · by_cases e : j < at_.length
      · rw [List.getElem?_append_left e] at hp
        obtain ⟨q1, q2⟩ := h1.made j w p hj hp hp0
        obtain ⟨r1, r2⟩ := hto.keeps p q1
        exact ⟨r1, r2.trans q2⟩
      · have hl := (List.getElem?_eq_some_iff.1 hp).1
        simp at hl
        obtain rfl : j = i := by omega
        rw [List.getElem?_append_right (by omega), hlen, Nat.sub_self] at hp
        simp at hp
        subst hp
        rw [hwi] at hj
        have hj := Option.some.inj hj
        subst hj
        obtain ⟨q1, _, q2⟩ := hto.made hp0
        exact ⟨q1, q2⟩
    · rcases hto.only x hx with h | h
      · simp [h1.only x h]
      · simp [h]
    · rw [List.filter_append, List.nodup_append]
      refine ⟨h1.nd, ?_, fun x hx y hy => ?_⟩
      · by_cases e : (b.alloc (ws[i]'(by omega))).2 = 0
        · simp [e]
        · simp [e]
      · rintro rfl
        simp only [List.mem_filter, List.mem_singleton, bne_iff_ne] at hx hy
        have hm := hto.made (hy.1 ▸ hy.2)
        obtain ⟨k, hk⟩ := List.getElem?_of_mem hx.1
        have hkl := (List.getElem?_eq_some_iff.1 hk).1
        have := h1.made k (ws[k]'(by omega)) x (by simp) hk hx.2
        rw [hy.1, hm.2.1] at this
        cases this.1

end Go.Proofs.YtkfdbgpegekcfaaGreatDoorP

namespace Go.Proofs.YtkfdbgpegekcfaaGreatDoorP
open Go Go.GL Go.GLM Go.Proofs Go.Maps
attribute [local irreducible] rawV rawN rawU Tryz.prog

/-- The things' words. -/
def szs (l : List Th7) : List Int := l.map fun x => szOf x.1 x.2.1

theorem szs_cls (l : List Th7) : ∀ w ∈ szs l, 0 ≤ cls w := by
  intro w hw
  obtain ⟨x, _, rfl⟩ := List.mem_map.1 hw
  have := szOf_bd x.1 x.2.1
  unfold cls
  omega

theorem cls_wds {w : Int} (h1 : 1 ≤ w) (h2 : w ≤ 64) : w ≤ wds (cls w) := by
  have : cls w = 0 ∧ w ≤ 2 ∨ cls w = 1 ∧ w ≤ 4 ∨ cls w = 2 ∧ w ≤ 8 ∨ cls w = 3 ∧ w ≤ 16 ∨ cls w = 4 ∧ w ≤ 32 ∨ cls w = 5 ∧ w ≤ 64 := by unfold cls; omega
  rcases this with ⟨h, h'⟩ | ⟨h, h'⟩ | ⟨h, h'⟩ | ⟨h, h'⟩ | ⟨h, h'⟩ | ⟨h, h'⟩ <;> rw [h] <;> exact h'

attribute [local irreducible] takesN fillAll
section
variable {h0 : H} {c : WC} {n : Nat} {p8 : Option Addr} {c8 : Nat} {l : List Th7} {xp : Option Addr} {g : H}

theorem rm_of {a0 a : Ar} {R : Rf} {at_ : List Int} (hsim : Sim a R) (ht : TakesTo a (szs l) at_) : Rm R at_ l := by
  refine ⟨by have := hsim.num; omega, fun t htm i x hx hp => ?_⟩
  have hsz := szOf_bd x.1 x.2.1
  have his : a.is t.at_ = true := by rw [← hsim.has]; exact Rf.has_iff.2 (List.mem_map.2 ⟨t, htm, rfl⟩)
  have hne : t.at_ ≠ 0 := fun h0 => by rw [h0, not_is_zero] at his; cases his
  have hm := (ht.made i (szOf x.1 x.2.1) t.at_ (by unfold szs; rw [List.getElem?_map, hx]; rfl) hp hne).2
  have hl := hsim.len t htm
  rw [hm] at hl
  have := cls_wds hsz.1 (by omega)
  omega

theorem world_loop2 (ha : ThAt h0 xp l) (hT : Tab h0) (hl : l.length ≤ 1000) {a0 : Ar} {R0 : Rf} (hf : a0.Fine) (hb : a0.Bare) (hno : ∀ x, a0.is x = false) (hsim0 : Sim a0 R0) (hn : n = a0.sp.length) {q0 : Option Addr} {cq0 : Nat}
    (hB : c.B ≠ 0 ∧ c.S ≠ 0) (hs : Sat g (wG h0 c n a0 shapeL R0 p8 c8 none 0 [])) {K : Option Addr → Option Addr → Option Addr → Option Addr → Nat → Nat → H → Prop}
    (hK : ∀ h' R' q cq, Sat h' (wG h0 c n (fillAll (takesN a0 (szs l) l.length).2 l (takesN a0 (szs l) l.length).1 l.length) shapeL R' p8 c8 q cq (takesN a0 (szs l) l.length).2) →
      K (some ⟨c.M, 0, none⟩) (some ⟨c.MK, 0, none⟩) (some ⟨c.A, 0, none⟩) q (takesN a0 (szs l) l.length).2.length cq h') :
    loopT (σ := (Int × ((Option Addr × (Nat × Nat)) × Unit))) (fun J57 s58 h59 => split (decide (s58.1 < ((l.length : Nat) : Int))) (joinP (fun (p60 : Option Addr) (k61 : Nat) (k62 : Nat) (h63 : H) => J57 ((IntKind.wrap .i64 (s58.1 + 1)), ((p60, (k61, k62)), ())) h63) (fun J64 => idx xp l.length s58.1 3 (fun a65 => ldI h59 (Addr.add a65 0) .i64 (fun n66 => ldI h59 (Addr.add a65 1) .i64 (fun n67 => ldL h59 (Addr.add a65 2) (fun p68 k69 k70 => gantlinelaw7_size.C n66 n67 p68 k69 k70 h59 (fun n73 h72 => alloc_Alloc_Take.C (some ⟨c.L, 0, none⟩) n73 h72 (fun n78 n79 h75 => idx xp l.length s58.1 3 (fun a80 => ldI h75 (Addr.add a80 0) .i64 (fun n81 => ldI h75 (Addr.add a80 1) .i64 (fun n82 => ldL h75 (Addr.add a80 2) (fun p83 k84 k85 => gantlinelaw7_size.C n81 n82 p83 k84 k85 h75 (fun n88 h87 => gantlineref4_Alloc_Take.C (some ⟨c.Y, 0, none⟩) n88 h87 (fun n91 h90 => split (n78 != n91) (K none none none none 0 0 h90) (joinP (fun (n92 : Int) (h93 : H) => newC h93 [(.int .i64 n92)] 2 (fun a94 h95 => rawN Tryz.prog (builtin .append #[28, 28] 28 #[false, false] #[(.slice s58.2.1.1 s58.2.1.2.1 s58.2.1.2.2), (.slice (some a94) 1 1)]) h95 (fun v96 h97 => exL v96 (fun p98 k99 k100 => J64 p98 k99 k100 h97)))) (fun J101 => split (n79 != 0) (J101 0 h90) (J101 n78 h90))))))))))))))))) (loopT (σ := (Int × Unit)) (fun J102 s103 h104 => split (decide (s103.1 < ((l.length : Nat) : Int))) (joinP (fun (h105 : H) => J102 ((IntKind.wrap .i64 (s103.1 + 1)), ()) h105) (fun J106 => idx s58.2.1.1 s58.2.1.2.1 s103.1 1 (fun a107 => ldI h104 a107 .i64 (fun n108 => split (n108 == 0) (J106 h104) (idx xp l.length s103.1 3 (fun a109 => ldI h104 (Addr.add a109 0) .i64 (fun n110 => need (((6 : Int) ≠ 0)) (idx xp l.length s103.1 3 (fun a111 => idx (some ⟨c.G, 0, none⟩) 6 (Int.tmod (bitsI .and .i64 n110 7) 6) 3 (fun a112 => ldI h104 (Addr.add a111 0) .i64 (fun n113 => ldI h104 (Addr.add a111 1) .i64 (fun n114 => ldL h104 (Addr.add a111 2) (fun p115 k116 k117 => ldI h104 (Addr.add a112 0) .i64 (fun n118 => gantlinelaw7_size.C n113 n114 p115 k116 k117 h104 (fun n121 h120 => need (ldI h120 (Addr.add a112 0) .i64 (fun n122 => ((.int .i64 n122) : Value) = (.int .i64 n118))) (head_Pack.C n121 n118 (Int.tmod (bitsI .and .i64 n110 7) 6) h120 (fun n127 n128 h124 => need (ldI h124 (Addr.add a112 0) .i64 (fun n129 => ((.int .i64 n129) : Value) = (.int .i64 n118))) (nilC (some ⟨c.MK, 0, none⟩) (fun a130 => idx s58.2.1.1 s58.2.1.2.1 s103.1 1 (fun a131 => ldP h124 (Addr.add a130 0) (fun p132 => ldI h124 a131 .i64 (fun n133 => gantlinelaw7_put.C (some ⟨c.A, 0, none⟩) p132 n133 0 n127 h124 (fun h135 => loopT (σ := (Int × Unit)) (fun J136 s137 h138 => joinP (fun (h139 : H) => joinP (fun (h140 : H) => J136 ((IntKind.wrap .i64 (s137.1 + 1)), ()) h140) (fun J141 => idx xp l.length s103.1 3 (fun a142 => ldL h139 (Addr.add a142 2) (fun p143 k144 k145 => idx p143 k144 s137.1 1 (fun a146 => ldI h139 a146 .i64 (fun n147 => joinP (fun (n148 : Int) (h149 : H) => nilC (some ⟨c.MK, 0, none⟩) (fun a150 => idx s58.2.1.1 s58.2.1.2.1 s103.1 1 (fun a151 => ldP h149 (Addr.add a150 0) (fun p152 => ldI h149 a151 .i64 (fun n153 => gantlinelaw7_put.C (some ⟨c.A, 0, none⟩) p152 n153 (IntKind.wrap .i64 (1 + s137.1)) n148 h149 (fun h155 => J141 h155)))))) (fun J156 => idx xp l.length s103.1 3 (fun a157 => ldL h139 (Addr.add a157 2) (fun p158 k159 k160 => idx p158 k159 s137.1 1 (fun a161 => ldI h139 a161 .i64 (fun n162 => split (decide (n162 ≥ 0)) (idx xp l.length s103.1 3 (fun a163 => ldL h139 (Addr.add a163 2) (fun p164 k165 k166 => idx p164 k165 s137.1 1 (fun a167 => ldI h139 a167 .i64 (fun n168 => split (decide (n168 < ((s58.2.1.2.1 : Nat) : Int))) (idx xp l.length s103.1 3 (fun a169 => ldL h139 (Addr.add a169 2) (fun p170 k171 k172 => idx p170 k171 s137.1 1 (fun a173 => ldI h139 a173 .i64 (fun n174 => idx s58.2.1.1 s58.2.1.2.1 n174 1 (fun a175 => ldI h139 a175 .i64 (fun n176 => J156 n176 h139))))))) (J156 n147 h139)))))) (J156 n147 h139)))))))))))) (fun J177 => idx xp l.length s103.1 3 (fun a178 => ldL h138 (Addr.add a178 2) (fun p179 k180 k181 => split (decide (s137.1 < ((k180 : Nat) : Int))) (idx xp l.length s103.1 3 (fun a182 => ldI h138 (Addr.add a182 0) .i64 (fun n183 => ldI h138 (Addr.add a182 1) .i64 (fun n184 => ldL h138 (Addr.add a182 2) (fun p185 k186 k187 => gantlinelaw7_size.C n183 n184 p185 k186 k187 h138 (fun n190 h189 => split (decide (s137.1 < (IntKind.wrap .i64 (n190 - 1)))) (J177 h189) (J106 h189))))))) (J106 h138))))) (0, ()) h135))))))))))))))))))))))) (K (some ⟨c.M, 0, none⟩) (some ⟨c.MK, 0, none⟩) (some ⟨c.A, 0, none⟩) s58.2.1.1 s58.2.1.2.1 s58.2.1.2.2 h104)) (0, ()) h59)) (0, ((none, (0, 0)), ())) g := by
  have hszl : (szs l).length = l.length := by simp [szs]
  refine loop_of (fun t h' => ∃ R' cq, 0 ≤ t.1 ∧ t.1 ≤ l.length ∧ t.2.1.2 = ((takesN a0 (szs l) t.1.toNat).2.length, cq) ∧ Sim (takesN a0 (szs l) t.1.toNat).1 R' ∧
      Sat h' (wG h0 c n (takesN a0 (szs l) t.1.toNat).1 shapeL R' p8 c8 t.2.1.1 cq (takesN a0 (szs l) t.1.toNat).2)) (fun t _ => (l.length - t.1).toNat) ⟨R0, 0, by simp, by simp, by unfold takesN; rfl, by unfold takesN; exact hsim0, by unfold takesN; exact hs⟩ ?_
  rintro ⟨i, ⟨q, k1, k2⟩, _⟩ h1 ⟨R, cq, i0, i1, he, hsim, hs1⟩
  simp only [Prod.mk.injEq] at he
  obtain ⟨rfl, rfl⟩ := he
  simp only at i0 i1 hs1 hsim ⊢
  have arg : ∀ {h' : H} {R' a' q' cq' at'}, Sat h' (wG h0 c n a' shapeL R' p8 c8 q' cq' at') → ThAt h' xp l := fun hs' => ha.fr fun _ _ hc => Sat.oldCell hs' (i := 0) rfl hc
  refine split_of (fun h2 => ?_) fun h2 => ?_
  · simp at h2
    have hlt : i.toNat < l.length := by omega
    have hx : l[i.toNat]? = some l[i.toNat] := by simp [hlt]
    obtain ⟨hto, hlen⟩ := takesN_to hf hb hno (szs_cls l) i.toNat (by omega)
    have hw : (szs l)[i.toNat]? = some (szOf l[i.toNat].1 l[i.toNat].2.1) := by unfold szs; rw [List.getElem?_map, hx]; rfl
    have hcw := szs_cls l (szOf l[i.toNat].1 l[i.toNat].2.1) (List.mem_of_getElem? hw)
    have hlen2 := takesN_len a0 (szs l) i.toNat
    have hstep : takesN a0 (szs l) (i.toNat + 1) = (((takesN a0 (szs l) i.toNat).1.alloc (szOf l[i.toNat].1 l[i.toNat].2.1)).1, (takesN a0 (szs l) i.toNat).2 ++ [((takesN a0 (szs l) i.toNat).1.alloc (szOf l[i.toNat].1 l[i.toNat].2.1)).2]) := by
      simp only [takesN, hw, Option.getD_some]
    generalize l[i.toNat] = x at *
    generalize takesN a0 (szs l) i.toNat = r at *
    obtain ⟨a, at_⟩ := r
    simp only at *
    have hwr : IntKind.wrap .i64 (i + 1) = i + 1 := wrap64_id (by omega) (by omega)
    unfold joinP
    rw [hwr]
    refine th_idx (arg hs1) i0 hx fun ad qx cx c1 c2 c3 c4 => ldI_of c1 (ldI_of c2 (ldL_of c3 (law7_size_C fun g1 f1 => ?_)))
    have hs2 := hs1.fr f1
    have hT2 : Tab g1 := hT.fr (hs2.oldFr (i := 0) rfl) (fun h => h)
    refine alloc_Take_S hs2 hT2 hB (ia := 1) (il := 7) rfl rfl (by decide) (by omega) hto.fine.good fun g3 hs3 => ?_
    have hs3' : Sat g3 (wG h0 c n (a.alloc (szOf x.1 x.2.1)).1 shapeL R p8 c8 q k2 at_) := hs3
    have hdo := alloc_to hto.fine hcw
    refine th_idx (arg hs3') i0 hx fun ad qx cx c1 c2 c3 c4 => ldI_of c1 (ldI_of c2 (ldL_of c3 (law7_size_C fun g4 f4 => ?_)))
    have hs4 := hs3'.fr f4
    refine ref4_AllocTake_S hs4 (i := 5) (iy := 9) (is := 8) (a := a) rfl rfl rfl (by decide) (by omega) (by have := hto.fine.small; omega) hsim hto.fine.good hto.fine.cl hcw fun g5 R' hsim' hs5 => ?_
    have hs5' : Sat g5 (wG h0 c n (a.alloc (szOf x.1 x.2.1)).1 shapeL R' p8 c8 q k2 at_) := hs5
    refine split_neg (by simp) ?_
    have fin : newC g5 [(.int .i64 (a.alloc (szOf x.1 x.2.1)).2)] 2 (fun a94 h95 => rawN Tryz.prog (builtin .append #[28, 28] 28 #[false, false] #[(.slice q at_.length k2), (.slice (some a94) 1 1)]) h95 (fun v96 h97 => exL v96 (fun p98 k99 k100 =>
        (∃ R' cq', 0 ≤ i + 1 ∧ i + 1 ≤ (l.length : Int) ∧ (k99, k100) = ((takesN a0 (szs l) (i + 1).toNat).2.length, cq') ∧ Sim (takesN a0 (szs l) (i + 1).toNat).1 R' ∧
        Sat h97 (wG h0 c n (takesN a0 (szs l) (i + 1).toNat).1 shapeL R' p8 c8 p98 cq' (takesN a0 (szs l) (i + 1).toNat).2)) ∧ (l.length - (i + 1)).toNat < (l.length - i).toNat))) := by
      refine nW fun g6 f6 s6 b6 => ?_
      have hs6 := hs5'.fr f6
      refine rowApp_of ty_words in_word int_one (by decide) hs6 (i := 12) rfl (src_one b6) (by intro u hu; rw [List.mem_singleton.1 hu]; rfl) (by simp only [maxLen]; omega) (by omega) fun q7 c7 g7 hs7 => ⟨_, _, _, rfl, ?_⟩
      rw [show (i + 1).toNat = i.toNat + 1 from by omega, hstep]
      refine ⟨⟨R', c7, by omega, by omega, by simp, hsim', ?_⟩, by omega⟩
      have e : wG h0 c n (a.alloc (szOf x.1 x.2.1)).1 shapeL R' p8 c8 q7 c7 (at_ ++ [(a.alloc (szOf x.1 x.2.1)).2]) = (wG h0 c n (a.alloc (szOf x.1 x.2.1)).1 shapeL R' p8 c8 q k2 at_).set 12 (rowA 2 1 q7 (at_.length + 1) c7 (at_.map (Value.int .i64 ·) ++ [Value.int .i64 (a.alloc (szOf x.1 x.2.1)).2])) := by
        simp [wG]
      show Sat g7 (wG h0 c n (a.alloc (szOf x.1 x.2.1)).1 shapeL R' p8 c8 q7 c7 (at_ ++ [(a.alloc (szOf x.1 x.2.1)).2]))
      rw [e]
      exact hs7
    have herr : errOf (a.alloc (szOf x.1 x.2.1)).2 (szOf x.1 x.2.1) ≠ 0 → (a.alloc (szOf x.1 x.2.1)).2 = 0 := fun h3 => by
      unfold errOf at h3
      by_cases h4 : (a.alloc (szOf x.1 x.2.1)).2 ≠ 0
      · rw [if_pos h4] at h3; exact absurd rfl h3
      · exact Classical.not_not.1 h4
    refine split_of (fun h3 => ?_) fun h3 => fin
    have h3' := herr (by simpa using h3)
    rw [h3'] at fin
    exact fin
  · simp at h2
    obtain rfl : i = l.length := by omega
    rw [Int.toNat_natCast] at hs1 hsim ⊢
    obtain ⟨hto, hlen⟩ := takesN_to hf hb hno (szs_cls l) l.length (by omega)
    exact world_loop3 ha hl (takesN_len _ _ _) (rm_of (a0 := a0) hsim hto) hs1 fun h' R' hs' => hK h' R' q k2 hs'

end
end Go.Proofs.YtkfdbgpegekcfaaGreatDoorP

namespace Go.Proofs.YtkfdbgpegekcfaaGreatDoorP
open Go Go.GL Go.GLM Go.Proofs Go.Maps
attribute [local irreducible] rawV rawN rawU Tryz.prog
attribute [local irreducible] takesN fillAll

/-- The parts while the shapes are numbered. -/
theorem shape_at6 (k : Nat) (h : k < 6) : ∃ s : Shp, shapeL[k]? = some s ∧ shapeL.take (k + 1) = shapeL.take k ++ [s] ∧ s ∉ shapeL.take k ∧ shWf s ∧ s.2.2 < 2 ^ 64 ∧ goodSh s.1 s.2.1 s.2.2 = true := by
  have : k = 0 ∨ k = 1 ∨ k = 2 ∨ k = 3 ∨ k = 4 ∨ k = 5 := by omega
  rcases this with rfl | rfl | rfl | rfl | rfl | rfl
  all_goals exact ⟨_, rfl, rfl, by decide, ⟨by decide, by decide, by decide⟩, by decide, by decide⟩

section
variable {h0 : H} {c : WC} {n : Nat} {p8 : Option Addr} {c8 : Nat} {l : List Th7} {xp : Option Addr} {g : H}

theorem world_loop1 (ha : ThAt h0 xp l) (hT : Tab h0) (hl : l.length ≤ 1000) {a0 : Ar} {R0 : Rf} (hf : a0.Fine) (hb : a0.Bare) (hno : ∀ x, a0.is x = false) (hsim0 : Sim a0 R0) (hn : n = a0.sp.length)
    (hB : c.B ≠ 0 ∧ c.S ≠ 0) (hs : Sat g (wG h0 c n a0 [] R0 none 0 none 0 [])) {K : Option Addr → Option Addr → Option Addr → Option Addr → Nat → Nat → H → Prop}
    (hK : ∀ h' R' p8 c8 q cq, Sat h' (wG h0 c n (fillAll (takesN a0 (szs l) l.length).2 l (takesN a0 (szs l) l.length).1 l.length) shapeL R' p8 c8 q cq (takesN a0 (szs l) l.length).2) →
      K (some ⟨c.M, 0, none⟩) (some ⟨c.MK, 0, none⟩) (some ⟨c.A, 0, none⟩) q (takesN a0 (szs l) l.length).2.length cq h') :
    loopT (σ := (Int × Unit)) (fun J32 s33 h34 => split (decide (s33.1 < ((6 : Nat) : Int))) (idx (some ⟨c.G, 0, none⟩) 6 s33.1 3 (fun a35 => ldI h34 (Addr.add a35 0) .i64 (fun n36 => ldI h34 (Addr.add a35 1) .i64 (fun n37 => ldI h34 (Addr.add a35 2) .u64 (fun n38 => head_Table_Number.C (some ⟨c.T, 0, none⟩) n36 n37 n38 h34 (fun n43 n44 h40 => idx (some ⟨c.G, 0, none⟩) 6 s33.1 3 (fun a45 => idx (some ⟨c.G, 0, none⟩) 6 s33.1 3 (fun a46 => idx (some ⟨c.G, 0, none⟩) 6 s33.1 3 (fun a47 => ldI h40 (Addr.add a45 0) .i64 (fun n48 => ldI h40 (Addr.add a46 1) .i64 (fun n49 => ldI h40 (Addr.add a47 2) .u64 (fun n50 => gantlineref4_Marker_Number.C (some ⟨c.MK, 0, none⟩) n48 n49 n50 h40 (fun n53 h52 => need (ldI h52 (Addr.add a47 2) .u64 (fun n54 => ((.int .u64 n54) : Value) = (.int .u64 n50))) (need (ldI h52 (Addr.add a46 1) .i64 (fun n55 => ((.int .i64 n55) : Value) = (.int .i64 n49))) (need (ldI h52 (Addr.add a45 0) .i64 (fun n56 => ((.int .i64 n56) : Value) = (.int .i64 n48))) (J32 ((IntKind.wrap .i64 (s33.1 + 1)), ()) h52)))))))))))))))) (loopT (σ := (Int × ((Option Addr × (Nat × Nat)) × Unit))) (fun J57 s58 h59 => split (decide (s58.1 < ((l.length : Nat) : Int))) (joinP (fun (p60 : Option Addr) (k61 : Nat) (k62 : Nat) (h63 : H) => J57 ((IntKind.wrap .i64 (s58.1 + 1)), ((p60, (k61, k62)), ())) h63) (fun J64 => idx xp l.length s58.1 3 (fun a65 => ldI h59 (Addr.add a65 0) .i64 (fun n66 => ldI h59 (Addr.add a65 1) .i64 (fun n67 => ldL h59 (Addr.add a65 2) (fun p68 k69 k70 => gantlinelaw7_size.C n66 n67 p68 k69 k70 h59 (fun n73 h72 => alloc_Alloc_Take.C (some ⟨c.L, 0, none⟩) n73 h72 (fun n78 n79 h75 => idx xp l.length s58.1 3 (fun a80 => ldI h75 (Addr.add a80 0) .i64 (fun n81 => ldI h75 (Addr.add a80 1) .i64 (fun n82 => ldL h75 (Addr.add a80 2) (fun p83 k84 k85 => gantlinelaw7_size.C n81 n82 p83 k84 k85 h75 (fun n88 h87 => gantlineref4_Alloc_Take.C (some ⟨c.Y, 0, none⟩) n88 h87 (fun n91 h90 => split (n78 != n91) (K none none none none 0 0 h90) (joinP (fun (n92 : Int) (h93 : H) => newC h93 [(.int .i64 n92)] 2 (fun a94 h95 => rawN Tryz.prog (builtin .append #[28, 28] 28 #[false, false] #[(.slice s58.2.1.1 s58.2.1.2.1 s58.2.1.2.2), (.slice (some a94) 1 1)]) h95 (fun v96 h97 => exL v96 (fun p98 k99 k100 => J64 p98 k99 k100 h97)))) (fun J101 => split (n79 != 0) (J101 0 h90) (J101 n78 h90))))))))))))))))) (loopT (σ := (Int × Unit)) (fun J102 s103 h104 => split (decide (s103.1 < ((l.length : Nat) : Int))) (joinP (fun (h105 : H) => J102 ((IntKind.wrap .i64 (s103.1 + 1)), ()) h105) (fun J106 => idx s58.2.1.1 s58.2.1.2.1 s103.1 1 (fun a107 => ldI h104 a107 .i64 (fun n108 => split (n108 == 0) (J106 h104) (idx xp l.length s103.1 3 (fun a109 => ldI h104 (Addr.add a109 0) .i64 (fun n110 => need (((6 : Int) ≠ 0)) (idx xp l.length s103.1 3 (fun a111 => idx (some ⟨c.G, 0, none⟩) 6 (Int.tmod (bitsI .and .i64 n110 7) 6) 3 (fun a112 => ldI h104 (Addr.add a111 0) .i64 (fun n113 => ldI h104 (Addr.add a111 1) .i64 (fun n114 => ldL h104 (Addr.add a111 2) (fun p115 k116 k117 => ldI h104 (Addr.add a112 0) .i64 (fun n118 => gantlinelaw7_size.C n113 n114 p115 k116 k117 h104 (fun n121 h120 => need (ldI h120 (Addr.add a112 0) .i64 (fun n122 => ((.int .i64 n122) : Value) = (.int .i64 n118))) (head_Pack.C n121 n118 (Int.tmod (bitsI .and .i64 n110 7) 6) h120 (fun n127 n128 h124 => need (ldI h124 (Addr.add a112 0) .i64 (fun n129 => ((.int .i64 n129) : Value) = (.int .i64 n118))) (nilC (some ⟨c.MK, 0, none⟩) (fun a130 => idx s58.2.1.1 s58.2.1.2.1 s103.1 1 (fun a131 => ldP h124 (Addr.add a130 0) (fun p132 => ldI h124 a131 .i64 (fun n133 => gantlinelaw7_put.C (some ⟨c.A, 0, none⟩) p132 n133 0 n127 h124 (fun h135 => loopT (σ := (Int × Unit)) (fun J136 s137 h138 => joinP (fun (h139 : H) => joinP (fun (h140 : H) => J136 ((IntKind.wrap .i64 (s137.1 + 1)), ()) h140) (fun J141 => idx xp l.length s103.1 3 (fun a142 => ldL h139 (Addr.add a142 2) (fun p143 k144 k145 => idx p143 k144 s137.1 1 (fun a146 => ldI h139 a146 .i64 (fun n147 => joinP (fun (n148 : Int) (h149 : H) => nilC (some ⟨c.MK, 0, none⟩) (fun a150 => idx s58.2.1.1 s58.2.1.2.1 s103.1 1 (fun a151 => ldP h149 (Addr.add a150 0) (fun p152 => ldI h149 a151 .i64 (fun n153 => gantlinelaw7_put.C (some ⟨c.A, 0, none⟩) p152 n153 (IntKind.wrap .i64 (1 + s137.1)) n148 h149 (fun h155 => J141 h155)))))) (fun J156 => idx xp l.length s103.1 3 (fun a157 => ldL h139 (Addr.add a157 2) (fun p158 k159 k160 => idx p158 k159 s137.1 1 (fun a161 => ldI h139 a161 .i64 (fun n162 => split (decide (n162 ≥ 0)) (idx xp l.length s103.1 3 (fun a163 => ldL h139 (Addr.add a163 2) (fun p164 k165 k166 => idx p164 k165 s137.1 1 (fun a167 => ldI h139 a167 .i64 (fun n168 => split (decide (n168 < ((s58.2.1.2.1 : Nat) : Int))) (idx xp l.length s103.1 3 (fun a169 => ldL h139 (Addr.add a169 2) (fun p170 k171 k172 => idx p170 k171 s137.1 1 (fun a173 => ldI h139 a173 .i64 (fun n174 => idx s58.2.1.1 s58.2.1.2.1 n174 1 (fun a175 => ldI h139 a175 .i64 (fun n176 => J156 n176 h139))))))) (J156 n147 h139)))))) (J156 n147 h139)))))))))))) (fun J177 => idx xp l.length s103.1 3 (fun a178 => ldL h138 (Addr.add a178 2) (fun p179 k180 k181 => split (decide (s137.1 < ((k180 : Nat) : Int))) (idx xp l.length s103.1 3 (fun a182 => ldI h138 (Addr.add a182 0) .i64 (fun n183 => ldI h138 (Addr.add a182 1) .i64 (fun n184 => ldL h138 (Addr.add a182 2) (fun p185 k186 k187 => gantlinelaw7_size.C n183 n184 p185 k186 k187 h138 (fun n190 h189 => split (decide (s137.1 < (IntKind.wrap .i64 (n190 - 1)))) (J177 h189) (J106 h189))))))) (J106 h138))))) (0, ()) h135))))))))))))))))))))))) (K (some ⟨c.M, 0, none⟩) (some ⟨c.MK, 0, none⟩) (some ⟨c.A, 0, none⟩) s58.2.1.1 s58.2.1.2.1 s58.2.1.2.2 h104)) (0, ()) h59)) (0, ((none, (0, 0)), ())) h34)) (0, ()) g := by
  refine loop_of (fun t h' => ∃ p8 c8, 0 ≤ t.1 ∧ t.1 ≤ 6 ∧ Sat h' (wG h0 c n a0 (shapeL.take t.1.toNat) R0 p8 c8 none 0 [])) (fun t _ => (6 - t.1).toNat) ⟨none, 0, by simp, by simp, hs⟩ ?_
  rintro ⟨i, _⟩ h1 ⟨p8, c8, i0, i1, hs1⟩
  simp only at i0 i1 hs1 ⊢
  refine split_of (fun h2 => ?_) fun h2 => ?_
  · have h2' : i < 6 := by simpa using h2
    obtain ⟨s, e1, e2, e3, e4, e5, e6⟩ := shape_at6 i.toNat (by omega)
    have cG : ∀ {h' : H} {Γ}, Sat h' Γ → Γ[10]? = some (blkA c.G 86 (shC shapeL)) → cell h' ⟨c.G, 0 + i.toNat * 3 + 0, none⟩ = some (.int .i64 s.1) ∧ cell h' ⟨c.G, 0 + i.toNat * 3 + 1, none⟩ = some (.int .i64 s.2.1) ∧ cell h' ⟨c.G, 0 + i.toNat * 3 + 2, none⟩ = some (.int .u64 (s.2.2 : Int)) := by
      intro h' Γ hs' hi
      obtain ⟨q1, q2, q3⟩ := shC_get e1
      have hb := blkA_at hs' hi
      refine ⟨?_, ?_, ?_⟩
      · rw [hb.cell, Nat.zero_add, Nat.add_zero]; exact q1
      · rw [hb.cell, Nat.zero_add]; exact q2
      · rw [hb.cell, Nat.zero_add]; exact q3
    obtain ⟨k1, k2, k3⟩ := cG hs1 rfl
    refine idx_of i0 h2' ?_
    simp only [add_mk]
    refine ldI_of k1 (ldI_of k2 (ldI_of k3 ?_))
    have htl : (shapeL.take i.toNat).length = i.toNat := by rw [List.length_take]; show min i.toNat 6 = _; omega
    refine head_Number_C hs1 (i := 2) rfl e4 e5 (fun hb => ?_) (fun j _ hj => ?_) (fun _ h6 => ?_) (fun _ _ _ g2 hs2 => ?_) (by omega)
    · rw [e6] at hb; cases hb
    · exact absurd (List.mem_of_getElem? hj) e3
    · rw [htl] at h6; omega
    · have hs2' : Sat g2 ((wG h0 c n a0 (shapeL.take i.toNat) R0 p8 c8 none 0 []).set 2 (tbA c.T (shapeL.take i.toNat ++ [s]))) := hs2
      obtain ⟨k1, k2, k3⟩ := cG hs2' rfl
      refine idx_of i0 h2' (idx_of i0 h2' (idx_of i0 h2' ?_))
      simp only [add_mk]
      refine ldI_of k1 (ldI_of k2 (ldI_of k3 ?_))
      refine ref4_Number_C (ts := shapeL.take i.toNat) (c := c8) hs2' (i := 6) (j := 11) rfl rfl (by decide) (by omega) (fun j hj => ?_) fun _ g3 p' c' hs3 => ?_
      · exact absurd (List.mem_of_getElem? hj) e3
      · have el : (shapeL.take i.toNat).length + 1 = (shapeL.take i.toNat ++ [s]).length := by simp
        rw [el, ← e2] at hs3
        have hs3' : Sat g3 (wG h0 c n a0 (shapeL.take (i.toNat + 1)) R0 p' c' none 0 []) := hs3
        obtain ⟨k1, k2, k3⟩ := cG hs3' rfl
        refine need_of (ldI_of k3 rfl) (need_of (ldI_of k2 rfl) (need_of (ldI_of k1 rfl) ?_))
        rw [wrap64_id (by omega) (by omega)]
        refine ⟨⟨p', c', by omega, by omega, ?_⟩, by omega⟩
        rw [show (i + 1).toNat = i.toNat + 1 from by omega]
        exact hs3'
  · have h2' : 6 ≤ i := by simpa using h2
    obtain rfl : i = 6 := by omega
    exact world_loop2 ha hT hl hf hb hno hsim0 hn (q0 := none) (cq0 := 0) hB hs1 fun h' R' q cq hs' => hK h' R' p8 c8 q cq hs'

end

/-- The arena that a world begins with. -/
def ar0 (n : Nat) : Ar := ⟨List.replicate (n * 64) 0, List.replicate n (-1, 0, 0)⟩

theorem ar0_fine {n : Nat} (hn : n ≤ 512) : (ar0 n).Fine := by
  refine ⟨fun s hs => ?_, by simp [ar0]; exact hn, fun s hs => ?_, fun x hx => ?_⟩
  · rw [List.eq_of_mem_replicate hs]; exact Nat.two_pow_pos _
  · rw [List.eq_of_mem_replicate hs]; exact Int.le_refl _
  · rw [List.eq_of_mem_replicate hx]; omega

theorem ar0_bare (n : Nat) : (ar0 n).Bare := fun s hs => by rw [List.eq_of_mem_replicate hs]

theorem ar0_is (n : Nat) (x : Int) : (ar0 n).is x = false := by
  cases h : (ar0 n).is x with
  | false => rfl
  | true =>
    obtain ⟨s, p, q1, q2, q3, q4, q5, q6, q7, _⟩ := is_place h
    have : (ar0 n).tak s = 0 := by
      unfold Ar.tak ar0
      rw [List.getElem?_replicate]
      split <;> rfl
    rw [this] at q7
    simp at q7

theorem ar0_sim (n : Nat) : Sim (ar0 n) ⟨List.replicate n (-1), []⟩ :=
  ⟨by simp [ar0], fun x => by rw [ar0_is]; rfl, fun t ht => by simp at ht, List.nodup_nil⟩

/-- Where things are, and what lies there. -/
def worldAt (n : Nat) (l : List Th7) : List Int := (takesN (ar0 n) (szs l) l.length).2
def worldAr (n : Nat) (l : List Th7) : Ar := fillAll (worldAt n l) l (takesN (ar0 n) (szs l) l.length).1 l.length

/-- What a world leaves: its parts among the heap's. -/
def w7G (h0 : H) (c : WC) (a : Ar) (q : Option Addr) (cq : Nat) (at_ : List Int) : List Asrt :=
  [oldA h0, arA c.A c.B c.W a, tbA c.T shapeL, quA c.Q [], blkA c.M 99 [.pointer (some ⟨c.A, 0, none⟩), .pointer (some ⟨c.T, 0, none⟩), .pointer (some ⟨c.Q, 0, none⟩)], rowA 2 1 q at_.length cq (at_.map (Value.int .i64 ·))]

theorem law7_world_C {h : H} (hT : Tab h) {xp : Option Addr} {xc : Nat} {l : List Th7} (ha : ThAt h xp l) (hl : l.length ≤ 1000) {n : Nat} (hn : 8 ≤ n) (hn5 : n ≤ 512)
    {K : Option Addr → Option Addr → Option Addr → Option Addr → Nat → Nat → H → Prop}
    (hK : ∀ h' c q cq, Sat h' (w7G h c (worldAr n l) q cq (worldAt n l)) → K (some ⟨c.M, 0, none⟩) (some ⟨c.MK, 0, none⟩) (some ⟨c.A, 0, none⟩) q (worldAt n l).length cq h') : gantlinelaw7_world.C (n : Int) xp l.length xc h K := by
  refine gantlinelaw7_world.of ?_
  unfold gantlinelaw7_world.S
  have h00 := hT.1
  refine arena_New_C (fun h1 => by omega) fun _ _ g1 A B W f1 hA hB hW ho => ?_
  rw [Int.toNat_natCast] at ho
  have hs1 : Sat g1 ([oldA h] ++ [arA A B W (ar0 n)]) := (Sat.old h).new f1 (d := fun b => b ∈ [A, B, W]) ⟨ho, fun b => Iff.rfl⟩ fun b hb => by
    simp only [List.mem_cons, List.not_mem_nil, or_false] at hb
    rcases hb with rfl | rfl | rfl <;> assumption
  have hBB : B ≠ 0 := by omega
  refine split_false (split_false (head_New_C hs1 fun g2 T hs2 => mark_New_S hs2 fun g3 M Q hs3 => ref4_NewArena_C hs3 (by omega) fun g4 X hs4 => nW fun g5 f5 s5 b5 => ?_))
  have hs5 := hs4.blkNew f5 b5
  have hs5' : Sat g5 [oldA h, arA A B W (ar0 n), tbA T [], quA Q [], blkA M 99 [.pointer (some ⟨A, 0, none⟩), .pointer (some ⟨T, 0, none⟩), .pointer (some ⟨Q, 0, none⟩)], rfA X ⟨List.replicate n (-1), []⟩, blkA g4.size 76 [.pointer (some ⟨X, 0, none⟩), .slice none 0 0, .slice none 0 0]] := by
    simpa using hs5
  generalize g4.size = MK at *
  refine alloc_New_S hs5' (ia := 1) rfl fun g6 L S hs6 => ?_
  have hs6' : Sat g6 [oldA h, arA A B W (ar0 n), tbA T [], quA Q [], blkA M 99 [.pointer (some ⟨A, 0, none⟩), .pointer (some ⟨T, 0, none⟩), .pointer (some ⟨Q, 0, none⟩)], rfA X ⟨List.replicate n (-1), []⟩, blkA MK 76 [.pointer (some ⟨X, 0, none⟩), .slice none 0 0, .slice none 0 0], alA L S A n] := by
    simpa [ar0] using hs6
  have hSS : S ≠ 0 := by
    rintro rfl
    obtain ⟨d, e, hd1, he1, hdis, _⟩ := hs6'.two (i := 0) (j := 7) rfl rfl (by decide)
    exact hdis 0 ((hd1.2.2 0).2 h00) ((he1.2 0).2 (by simp))
  refine nP (blkA_at hs6' (i := 6) rfl) rfl (ref4_NewAlloc_C hs6' (i := 5) rfl (by simp; omega) fun g7 Y S4 hs7 => law7_shapes_C hs7 fun g8 G hs8 => ?_)
  have hs9 := (hs8.rowNil 88 3).rowNil 2 1
  refine world_loop1 (h0 := h) (c := ⟨A, B, W, T, Q, M, X, MK, L, S, S4, Y, G⟩) (n := n) (a0 := ar0 n) (R0 := ⟨List.replicate n (-1), []⟩) ha hT hl (ar0_fine hn5) (ar0_bare n) (ar0_is n) (ar0_sim n) (by simp [ar0]) ⟨hBB, hSS⟩ ?_ fun h' R' p8 c8 q cq hs' => hK h' ⟨A, B, W, T, Q, M, X, MK, L, S, S4, Y, G⟩ q cq ?_
  · simpa [wG, rmV, shC] using hs9
  · exact (hs'.pick (Γ := []) (Δ' := w7G h ⟨A, B, W, T, Q, M, X, MK, L, S, S4, Y, G⟩ (worldAr n l) q cq (worldAt n l)) [0, 1, 2, 3, 4, 12] (by decide) rfl)

end Go.Proofs.YtkfdbgpegekcfaaGreatDoorP

namespace Go.Proofs.YtkfdbgpegekcfaaGreatDoorP
open Go Go.GL Go.GLM Go.Proofs Go.Maps

/-- The two things. -/
def twoL : List Th7 := [(1, 0, [1]), (0, 0, [])]

theorem two_at : worldAt 8 twoL = [64, 66] := by decide +kernel
theorem two_f64 : fieldsOf (worldAr 8 twoL) shapeL 64 = [66] := by decide +kernel
theorem two_f66 : fieldsOf (worldAr 8 twoL) shapeL 66 = [] := by decide +kernel
theorem two_is : (worldAr 8 twoL).is 64 = true ∧ (worldAr 8 twoL).is 66 = true := by decide +kernel
theorem two_w64 : (worldAr 8 twoL).white 64 = true := by decide +kernel
theorem sh_one {a : Ar} {xs : List Int} {v : Int} (h : a.white v = true) : shAll a xs [v] = (a.markAt v, xs ++ [v]) := by
  have e1 : shA a v = a.markAt v := if_pos h
  have e2 : shQ a xs v = xs ++ [v] := if_pos h
  rw [← e1, ← e2]
  rfl

theorem two_g64 : fieldsOf ((worldAr 8 twoL).markAt 64) shapeL 64 = [66] := by decide +kernel
theorem two_v66 : ((worldAr 8 twoL).markAt 64).white 66 = true := by decide +kernel
theorem two_sh : shAll ((worldAr 8 twoL).markAt 64) [] (fieldsOf ((worldAr 8 twoL).markAt 64) shapeL 64) = (((worldAr 8 twoL).markAt 64).markAt 66, [66]) := by
  rw [two_g64, sh_one two_v66, List.nil_append]

theorem two_w66 : (((worldAr 8 twoL).markAt 64).markAt 66).white 66 = false := by decide +kernel
theorem two_mk : (if (((worldAr 8 twoL).markAt 64).markAt 66).clsAt 1 = -1 then 0 else ((((worldAr 8 twoL).markAt 64).markAt 66).mrk 1 : Int)) = 3 := by decide +kernel


theorem two_rch (x : Int) : Rch (worldAr 8 twoL) shapeL [64] x ↔ x = 64 ∨ x = 66 := by
  constructor
  · intro h
    induction h with
    | root h1 _ => simp at h1; exact .inl h1
    | step _ h2 _ ih =>
      rcases ih with rfl | rfl
      · rw [two_f64] at h2; simp at h2; exact .inr h2
      · rw [two_f66] at h2; simp at h2
  · rintro (rfl | rfl)
    · exact .root (by simp) two_is.1
    · exact .step (.root (x := 64) (by simp) two_is.1) (by rw [two_f64]; simp) two_is.2

theorem sorted_two {l : List Int} (h : l.Pairwise (· < ·)) (hm : ∀ x, x ∈ l ↔ x = 64 ∨ x = 66) : l.length = 2 := by
  match l, h, hm with
  | [], _, hm => have := (hm 64).2 (.inl rfl); simp at this
  | [a], _, hm =>
    have h1 := (hm 64).2 (.inl rfl)
    have h2 := (hm 66).2 (.inr rfl)
    simp at h1 h2
    omega
  | [a, b], _, _ => rfl
  | a :: b :: c :: r, h, hm =>
    simp only [List.pairwise_cons] at h
    have h1 := (hm a).1 (by simp)
    have h2 := (hm b).1 (by simp)
    have h3 := (hm c).1 (by simp)
    have := h.1 b (by simp)
    have := h.2.1 c (by simp)
    omega

theorem two_wf : (worldAr 8 twoL).Wf := by
  have : ∀ x ∈ (worldAr 8 twoL).ws, (-9223372036854775808 ≤ x ∧ x < 9223372036854775808) := by decide +kernel
  exact this

attribute [local irreducible] rawV rawN rawU Tryz.prog takesN fillAll worldAr worldAt Ar.markAt

theorem shape_small : ∀ s ∈ shapeL, s.2.2 < 2 ^ 64 := by decide

/-- Where a world's marker stands. -/
def w7M (c : WC) : MkP := ⟨1, 2, 4, 3, c.A, c.B, c.W, c.T, c.M, c.Q⟩

theorem law7_awake_C {h : H} (hT : Tab h) {K : Bool → H → Prop} (hk : ∀ h', Fr noB h h' → K true h') : gantlinelaw7_awake.C h K := by
  refine gantlinelaw7_awake.of ?_
  unfold gantlinelaw7_awake.S
  refine nW fun g1 f1 s1 b1 => nW fun g2 f2 s2 b2 => ?_
  have hth : ThAt g2 (some ⟨g1.size, 0, none⟩) twoL := by
    refine .inr ⟨_, rfl, fun j x hj => ?_⟩
    have hjl := (List.getElem?_eq_some_iff.1 hj).1
    have : j = 0 ∨ j = 1 := by simp [twoL] at hjl; omega
    rcases this with rfl | rfl
    · cases hj
      refine ⟨some ⟨h.size, 0, none⟩, 1, by simp only [add_mk, b2.cell]; rfl, by simp only [add_mk, b2.cell]; rfl, by simp only [add_mk, b2.cell]; rfl, rfl, .inr ⟨_, rfl, fun j u hu => ?_⟩⟩
      rw [add_mk, (f2.blk b1 (fun h => h)).cell, Nat.zero_add]
      exact hu
    · cases hj
      exact ⟨none, 0, by simp only [add_mk, b2.cell]; rfl, by simp only [add_mk, b2.cell]; rfl, by simp only [add_mk, b2.cell]; rfl, rfl, .inl ⟨rfl, rfl, rfl⟩⟩
  have hT2 := hT.fr (f1.trans f2) (fun h => h)
  refine law7_world_C (n := 8) hT2 hth (by decide) (by decide) (by decide) fun g3 c q cq hs3 => ?_
  have fr0 : Fr noB h g3 := (f1.trans f2).trans (hs3.oldFr (i := 0) rfl)
  have hwat := two_at
  have e64 := two_f64; have rch := two_rch; have w64 := two_w64; have sh := two_sh; have w66 := two_w66; have mk := two_mk; have wf := two_wf
  generalize worldAt 8 twoL = at_ at *
  subst hwat
  generalize worldAr 8 twoL = a at *
  unfold joinP
  refine split_false (split_false ?_)
  have hm3 : MkAt (w7G g2 c a q cq [64, 66]) (w7M c) a shapeL [] := ⟨rfl, rfl, rfl, rfl, by show (1 ≠ 2 ∧ 1 ≠ 4 ∧ 1 ≠ 3 ∧ 2 ≠ 3 ∧ 4 ≠ 3); decide⟩
  have put5 : ∀ a' xs', (w7M c).put (w7G g2 c a q cq [64, 66]) a' xs' = [oldA g2, arA c.A c.B c.W a', tbA c.T shapeL, quA c.Q xs', blkA c.M 99 [.pointer (some ⟨c.A, 0, none⟩), .pointer (some ⟨c.T, 0, none⟩), .pointer (some ⟨c.Q, 0, none⟩)], rowA 2 1 q 2 cq ([64, 66].map (Value.int .i64 ·))] := fun _ _ => rfl
  have at0 : ∀ {h' : H} {Γ : List Asrt} {K : Addr → Prop}, Sat h' Γ → Γ[5]? = some (rowA 2 1 q 2 cq ([64, 66].map (Value.int .i64 ·))) → (∀ ad, cell h' ad = some (.int .i64 64) → K ad) → idx q 2 0 1 K := fun hs' hi hK => rowA_idx hs' hi (x := .int .i64 64) (by decide) rfl hK
  have at1 : ∀ {h' : H} {Γ : List Asrt} {K : Addr → Prop}, Sat h' Γ → Γ[5]? = some (rowA 2 1 q 2 cq ([64, 66].map (Value.int .i64 ·))) → (∀ ad, cell h' ad = some (.int .i64 66) → K ad) → idx q 2 1 1 K := fun hs' hi hK => rowA_idx hs' hi (x := .int .i64 66) (by decide) rfl hK
  refine at0 hs3 rfl fun ad1 h1 => ldI_of h1 (mark_Fields_C hs3 hm3 shape_small fun g4 qf cf hs4 => ?_)
  rw [e64] at hs4 ⊢
  refine at0 hs4 rfl fun ad2 h2 => ldI_of h2 (nW fun g5 f5 s5 b5 => ?_)
  have hs5 := hs4.fr f5
  have hm5 : MkAt (w7G g2 c a q cq [64, 66] ++ [rowA 2 1 qf ([66] : List Int).length cf ([66].map (Value.int .i64 ·))]) (w7M c) a shapeL [] := hm3.app
  refine mark_Reach_C hs5 hm5 shape_small wf (roots := [64]) (src_one b5) (by decide) (by decide) fun g6 qr cr lr hs6 hlr hpr => ?_
  have hl2 := sorted_two hpr fun x => (hlr x).trans (rch x)
  refine at0 hs6 rfl fun ad3 h3 => ldI_of h3 ?_
  have hm6 : MkAt ((w7G g2 c a q cq [64, 66] ++ [rowA 2 1 qf ([66] : List Int).length cf ([66].map (Value.int .i64 ·))]) ++ [rowA 2 1 qr lr.length cr (lr.map (Value.int .i64 ·))]) (w7M c) a shapeL [] := hm5.app
  refine mark_Shade_C hs6 hm6 (by decide) fun g7 hs7 => ?_
  have eA : shA a 64 = a.markAt 64 := if_pos w64
  have eQ : shQ a [] 64 = [64] := if_pos w64
  rw [eA, eQ] at hs7
  rw [w64]
  have hm7 : MkAt ((w7M c).put ((w7G g2 c a q cq [64, 66] ++ [rowA 2 1 qf ([66] : List Int).length cf ([66].map (Value.int .i64 ·))]) ++ [rowA 2 1 qr lr.length cr (lr.map (Value.int .i64 ·))]) (a.markAt 64) [64]) (w7M c) (a.markAt 64) shapeL [64] := hm6.put
  refine mark_Step_C hs7 hm7 shape_small (by decide) (fun h => by cases h) fun x r hxr g8 hs8 => ?_
  cases hxr
  rw [sh, hm6.put_put] at hs8
  have hm8 : MkAt ((w7M c).put ((w7G g2 c a q cq [64, 66] ++ [rowA 2 1 qf ([66] : List Int).length cf ([66].map (Value.int .i64 ·))]) ++ [rowA 2 1 qr lr.length cr (lr.map (Value.int .i64 ·))]) ((a.markAt 64).markAt 66) [66]) (w7M c) ((a.markAt 64).markAt 66) shapeL [66] := hm6.put
  refine split_pos (by decide) ?_
  have f0 : ∀ {h' : H} {Γ : List Asrt} {K : Addr → Prop}, Sat h' Γ → Γ[6]? = some (rowA 2 1 qf 1 cf ([66].map (Value.int .i64 ·))) → (∀ g o, qf = some ⟨g, o, none⟩ → cell h' ⟨g, o, none⟩ = some (.int .i64 66) → K ⟨g, o, none⟩) → idx qf 1 0 1 K := by
    intro h' Γ K hs' hi hK
    have ho := rowA_at hs' hi
    rcases ho.2 with ⟨_, _, h0⟩ | ⟨g, o, cur, rfl, _⟩
    · cases h0
    · refine idx_of (by decide) (by decide) (hK g o rfl ?_)
      exact ho.cell (j := 0) (by decide)
  have a1 : ∀ {h' : H} {Γ : List Asrt} {K : Addr → Prop}, Sat h' Γ → Γ[5]? = some (rowA 2 1 q 2 cq ([64, 66].map (Value.int .i64 ·))) → (∀ g o, q = some ⟨g, o, none⟩ → cell h' ⟨g, o + 1, none⟩ = some (.int .i64 66) → K ⟨g, o + 1, none⟩) → idx q 2 1 1 K := by
    intro h' Γ K hs' hi hK
    have ho := rowA_at hs' hi
    rcases ho.2 with ⟨_, _, h0⟩ | ⟨g, o, cur, rfl, _⟩
    · cases h0
    · refine idx_of (by decide) (by decide) (hK g o rfl ?_)
      exact ho.cell (j := 1) (by decide)
  refine f0 hs8 rfl fun gf of_ hqf cf1 => a1 hs8 rfl fun ga oa hqa ca1 => ldI_of cf1 (ldI_of ca1 (split_pos (by decide) (split_pos (by rw [hl2]; decide) (split_true (split_true ?_)))))
  refine mark_Left_C hs8 hm8 (need_of (ldI_of ca1 rfl) (need_of (ldI_of cf1 rfl) (split_pos (by decide) ?_)))
  refine at1 hs8 rfl fun ad4 h4 => ldI_of h4 (mark_Shade_C hs8 hm8 (by decide) fun g9 hs9 => ?_)
  have eA2 : shA ((a.markAt 64).markAt 66) 66 = (a.markAt 64).markAt 66 := if_neg (by rw [w66]; decide)
  have eQ2 : shQ ((a.markAt 64).markAt 66) [66] 66 = [66] := if_neg (by rw [w66]; decide)
  rw [eA2, eQ2, hm8.put_id] at hs9
  have cellf : ∀ {h' : H} {Γ : List Asrt}, Sat h' Γ → Γ[6]? = some (rowA 2 1 qf 1 cf ([66].map (Value.int .i64 ·))) → cell h' ⟨gf, of_, none⟩ = some (.int .i64 66) := by
    intro h' Γ hs' hi
    have ho := rowA_at hs' hi
    rw [hqf] at ho
    exact ho.cell (j := 0) (by decide)
  have cella : ∀ {h' : H} {Γ : List Asrt}, Sat h' Γ → Γ[5]? = some (rowA 2 1 q 2 cq ([64, 66].map (Value.int .i64 ·))) → cell h' ⟨ga, oa + 1, none⟩ = some (.int .i64 66) := by
    intro h' Γ hs' hi
    have ho := rowA_at hs' hi
    rw [hqa] at ho
    exact ho.cell (j := 1) (by decide)
  rw [w66]
  refine need_of (ldI_of (cella hs9 rfl) rfl) (need_of (ldI_of (cellf hs9 rfl) rfl) (split_true ?_))
  refine arena_Marked_C (arA_at hs9 hm8.ar) ?_
  rw [mk]
  refine need_of (ldI_of (cella hs9 rfl) rfl) (need_of (ldI_of (cellf hs9 rfl) rfl) ?_)
  have hfin := hk g9 ((f1.trans f2).trans (hs9.oldFr (i := 0) rfl))
  exact hfin

end Go.Proofs.YtkfdbgpegekcfaaGreatDoorP

namespace Go.Proofs.YtkfdbgpegekcfaaGreatDoorP
open Go Go.GL Go.GLM Go.Proofs

/-- Two arenas that part in their marks alone. -/
structure Ar.Same (a b : Ar) : Prop where
  ws : b.ws = a.ws
  sp : b.sp.map (fun s => (s.1, s.2.1)) = a.sp.map (fun s => (s.1, s.2.1))

theorem Ar.Same.refl (a : Ar) : Ar.Same a a := ⟨rfl, rfl⟩
theorem Ar.Same.trans {a b c : Ar} (h : Ar.Same a b) (h' : Ar.Same b c) : Ar.Same a c := ⟨h'.ws.trans h.ws, h'.sp.trans h.sp⟩
theorem Ar.Same.symm {a b : Ar} (h : Ar.Same a b) : Ar.Same b a := ⟨h.ws.symm, h.sp.symm⟩

section
variable {a b : Ar}

theorem Ar.Same.len (h : Ar.Same a b) : b.sp.length = a.sp.length := by have := congrArg List.length h.sp; simpa using this
theorem Ar.Same.at (h : Ar.Same a b) (i : Nat) : (b.sp[i]?).map (fun s => (s.1, s.2.1)) = (a.sp[i]?).map (fun s => (s.1, s.2.1)) := by
  rw [← List.getElem?_map, ← List.getElem?_map, h.sp]
theorem Ar.Same.has (h : Ar.Same a b) (i : Int) : b.has i = a.has i := by unfold Ar.has; rw [h.len]
theorem Ar.Same.cls (h : Ar.Same a b) (i : Int) : b.clsAt i = a.clsAt i := by
  have := h.at i.toNat
  unfold Ar.clsAt
  rw [h.has]
  cases h1 : b.sp[i.toNat]? <;> cases h2 : a.sp[i.toNat]? <;> rw [h1, h2] at this <;> simp at this ⊢
  rw [this.1]
theorem Ar.Same.tak (h : Ar.Same a b) (i : Int) : b.tak i = a.tak i := by
  have := h.at i.toNat
  unfold Ar.tak
  cases h1 : b.sp[i.toNat]? <;> cases h2 : a.sp[i.toNat]? <;> rw [h1, h2] at this <;> simp at this ⊢
  exact this.2
theorem Ar.Same.place (h : Ar.Same a b) (x : Int) : b.place x = a.place x := by unfold Ar.place; rw [h.cls]
theorem Ar.Same.is (h : Ar.Same a b) (x : Int) : b.is x = a.is x := by unfold Ar.is; rw [h.place, h.tak]
theorem Ar.Same.inn (h : Ar.Same a b) (p f : Int) : b.inn p f = a.inn p f := by unfold Ar.inn; rw [h.is, h.cls]
theorem Ar.Same.word (h : Ar.Same a b) (p f : Int) : b.word p f = a.word p f := by unfold Ar.word; rw [h.ws]
theorem Ar.Same.rd (h : Ar.Same a b) (p f : Int) : b.rd p f = a.rd p f := by unfold Ar.rd; rw [h.inn, h.word]
theorem Ar.Same.fldL (h : Ar.Same a b) (s : Shp) (p w : Int) (k : Nat) : fieldL b s p w k = fieldL a s p w k := by
  induction k with
  | zero => rfl
  | succ k ih => show _ ++ _ = _ ++ _; rw [show fieldL b s p w k = fieldL a s p w k from ih, h.rd]
theorem Ar.Same.fields (h : Ar.Same a b) (ts : List Shp) (p : Int) : fieldsOf b ts p = fieldsOf a ts p := by
  unfold fieldsOf
  rw [h.inn, h.word, h.cls]
  split
  · split
    · exact h.fldL _ _ _ _
    · rfl
  · rfl
theorem Ar.Same.rch (h : Ar.Same a b) {ts : List Shp} {r : List Int} {x : Int} (hr : Rch b ts r x) : Rch a ts r x := by
  induction hr with
  | root h1 h2 => exact .root h1 (by rw [← h.is]; exact h2)
  | step _ h2 h3 ih => exact .step ih (by rw [← h.fields]; exact h2) (by rw [← h.is]; exact h3)
theorem Ar.Same.good (h : Ar.Same a b) (hg : a.Good) : b.Good := by
  intro s hs
  obtain ⟨i, hi⟩ := List.getElem?_of_mem hs
  have := h.at i
  rw [hi] at this
  cases h2 : a.sp[i]? with
  | none => rw [h2] at this; cases this
  | some t =>
    rw [h2] at this
    simp at this
    obtain ⟨e1, e2⟩ := this
    have := hg t (List.mem_of_getElem? h2)
    rw [← e1, ← e2] at this
    exact this
theorem Ar.Same.wf (h : Ar.Same a b) (hw : a.Wf) : b.Wf := fun x hx => hw x (by rw [← h.ws]; exact hx)

/-- What is marked is taken. -/
def Ar.MkOk (a : Ar) : Prop := ∀ s ∈ a.sp, ∀ k, s.2.2.testBit k = true → s.2.1.testBit k = true

theorem Ar.Bare.mkOk (h : a.Bare) : a.MkOk := fun s hs k hk => by rw [h s hs] at hk; simp at hk

theorem markAt_mrk {p : Int} (hp : a.is p = true) (j : Int) (hj : 0 ≤ j) : (a.markAt p).mrk j = if j = spn p then a.mrk (spn p) ||| 2 ^ (a.place p).toNat else a.mrk j := by
  obtain ⟨s, q, q1, q2, q3, q4, q5, q6, q7, q8, q9⟩ := is_place hp
  have q1' := q1
  unfold Ar.has at q1'
  simp at q1'
  unfold Ar.markAt
  rw [if_pos hp]
  by_cases e : j = spn p
  · subst e
    rw [if_pos rfl]
    show (((a.sp.set (spn p).toNat _)[(spn p).toNat]?).map (·.2.2)).getD 0 = _
    rw [List.getElem?_set_self (by omega)]
    rfl
  · rw [if_neg e]
    show (((a.sp.set (spn p).toNat _)[j.toNat]?).map (·.2.2)).getD 0 = _
    rw [List.getElem?_set_ne (by omega)]
    rfl

theorem markAt_same (a : Ar) (p : Int) : Ar.Same a (a.markAt p) := by
  unfold Ar.markAt
  split
  · rename_i hp
    obtain ⟨s, q, q1, q2, q3, q4, q5, q6, q7, q8, q9⟩ := is_place hp
    obtain ⟨x, hx, _, hc, ht, _⟩ := Ar.at q1
    refine ⟨rfl, ?_⟩
    rw [← q4] at hx hc ht
    simp only [List.map_set]
    refine List.ext_getElem? fun i => ?_
    by_cases e : (spn p).toNat = i
    · subst e
      rw [List.getElem?_set_self (by have := (List.getElem?_eq_some_iff.1 hx).1; simpa using this), List.getElem?_map, hx, hc, ht]
      rfl
    · rw [List.getElem?_set_ne e]
  · exact Ar.Same.refl a

theorem spn_of_is {x : Int} (h : a.is x = true) : 0 ≤ spn x ∧ spn x < a.sp.length ∧ 1 ≤ spn x := by
  obtain ⟨s, q, q1, q2, q3, q4, q5, q6, q7, q8, q9⟩ := is_place h
  rw [q4]
  unfold Ar.has at q1
  simp at q1
  omega

/-- An object is told by its span and its place. -/
theorem is_inj {x y : Int} (hx : a.is x = true) (hy : a.is y = true) (h1 : spn x = spn y) (h2 : (a.place x).toNat = (a.place y).toNat) : x = y := by
  obtain ⟨s, q, q1, q2, q3, q4, q5, q6, q7, q8, q9⟩ := is_place hx
  obtain ⟨s', q', r1, r2, r3, r4, r5, r6, r7, r8, r9⟩ := is_place hy
  have e1 : s = s' := by rw [← q4, ← r4, h1]
  subst e1
  have e2 : q = q' := by rw [q5, r5] at h2; omega
  subst e2
  rw [q6, r6]

theorem markAt_marked {p x : Int} (hp : a.is p = true) (hx : a.is x = true) : (a.markAt p).marked x = (a.marked x || x == p) := by
  unfold Ar.marked
  rw [(markAt_same a p).place, markAt_mrk hp (spn x) (spn_of_is hx).1]
  by_cases e : spn x = spn p
  · rw [if_pos e, Nat.testBit_or, Nat.testBit_two_pow, e]
    by_cases e2 : (a.place p).toNat = (a.place x).toNat
    · have := is_inj hx hp e e2.symm
      simp [e2, this]
    · have : x ≠ p := fun h => e2 (by rw [h])
      simp [e2, this]
  · rw [if_neg e]
    have : x ≠ p := fun h => e (by rw [h])
    simp [this]

theorem markAt_mkOk (h : a.MkOk) (p : Int) : (a.markAt p).MkOk := by
  unfold Ar.markAt
  split
  · rename_i hp
    obtain ⟨s, q, q1, q2, q3, q4, q5, q6, q7, q8, q9⟩ := is_place hp
    obtain ⟨x, hx, hm, hc, ht, hmk⟩ := Ar.at q1
    intro t htm k hk
    rcases List.mem_or_eq_of_mem_set htm with h1 | h1
    · exact h t h1 k hk
    · subst h1
      simp only at hk ⊢
      rw [Nat.testBit_or, Nat.testBit_two_pow] at hk
      rw [q4] at hk ⊢
      rw [q5] at hk
      by_cases e : q.toNat = k
      · rw [← e]; exact q7
      · rw [decide_eq_false e, Bool.or_false, hmk] at hk
        rw [ht]
        exact h x hm k hk
  · exact h
end

/-- How far marking has come: what was looked at, what is grey. -/
structure MarkInv (a0 a : Ar) (ts : List Shp) (rs r xs dn : List Int) : Prop where
  same : Ar.Same a0 a
  ok : a.MkOk
  nd : (dn ++ xs).Nodup
  mk_ : ∀ x, a0.is x = true → (a.marked x = true ↔ x ∈ dn ∨ x ∈ xs)
  sound : ∀ x, x ∈ dn ∨ x ∈ xs → Rch a0 ts rs x
  closed : ∀ x ∈ dn, ∀ y ∈ fieldsOf a0 ts x, a0.is y = true → y ∈ dn ∨ y ∈ xs
  roots : ∀ x ∈ r, a0.is x = true → x ∈ dn ∨ x ∈ xs

section
variable {a0 a : Ar} {ts : List Shp} {rs r xs dn : List Int}

theorem MarkInv.start (hb : a0.Bare) : MarkInv a0 a0 ts [] [] [] [] :=
  ⟨.refl _, hb.mkOk, by simp, fun x hx => by
    unfold Ar.marked
    rw [hb.mrk]
    simp, fun x hx => by simp at hx, fun x hx => by simp at hx, fun x hx => by simp at hx⟩

theorem Rch.mono {r r' : List Int} {x : Int} (h : Rch a ts r x) (hr : ∀ y ∈ r, y ∈ r') : Rch a ts r' x := by
  induction h with
  | root h1 h2 => exact .root (hr _ h1) h2
  | step _ h2 h3 ih => exact .step ih h2 h3

theorem white_iff (v : Int) : a.white v = true ↔ a.is v = true ∧ a.marked v = false := by
  unfold Ar.white
  rw [Bool.and_eq_true, Bool.not_eq_true']

/-- An address is shaded. -/
theorem MarkInv.shade (h : MarkInv a0 a ts rs r xs dn) {v : Int} (hv : a0.is v = true → Rch a0 ts rs v) :
    MarkInv a0 (shA a v) ts rs r (shQ a xs v) dn ∧ (a0.is v = true → v ∈ dn ∨ v ∈ shQ a xs v) ∧ ∀ x ∈ xs, x ∈ shQ a xs v := by
  unfold shA shQ
  by_cases hw : a.white v = true
  · rw [if_pos hw, if_pos hw]
    obtain ⟨w1, w2⟩ := (white_iff v).1 hw
    have hv0 : a0.is v = true := by rw [← h.same.is]; exact w1
    have hnm : ¬ (v ∈ dn ∨ v ∈ xs) := fun hm => by
      have := (h.mk_ v hv0).2 hm
      rw [w2] at this; cases this
    refine ⟨⟨h.same.trans (markAt_same a v), markAt_mkOk h.ok v, ?_, fun x hx => ?_, fun x hx => ?_, fun x hx y hy hyi => ?_, fun x hx hxi => ?_⟩, fun _ => .inr (by simp), fun x hx => by simp [hx]⟩
    · rw [← List.append_assoc, List.nodup_append]
      refine ⟨h.nd, by simp, fun x hx y hy => ?_⟩
      rw [List.mem_singleton.1 hy]
      rintro rfl
      exact hnm (List.mem_append.1 hx)
    · rw [markAt_marked w1 (by rw [h.same.is]; exact hx), Bool.or_eq_true, h.mk_ x hx, beq_iff_eq]
      simp only [List.mem_append, List.mem_singleton]
      exact or_assoc
    · rcases hx with hx | hx
      · exact h.sound x (.inl hx)
      · rcases List.mem_append.1 hx with hx | hx
        · exact h.sound x (.inr hx)
        · rw [List.mem_singleton.1 hx]; exact hv hv0
    · rcases h.closed x hx y hy hyi with h1 | h1
      · exact .inl h1
      · exact .inr (by simp [h1])
    · rcases h.roots x hx hxi with h1 | h1
      · exact .inl h1
      · exact .inr (by simp [h1])
  · rw [if_neg hw, if_neg hw]
    refine ⟨h, fun hv0 => ?_, fun x hx => hx⟩
    have : a.marked v = true := by
      cases hm : a.marked v
      · exact absurd ((white_iff v).2 ⟨by rw [h.same.is]; exact hv0, hm⟩) hw
      · rfl
    exact (h.mk_ v hv0).1 this

theorem MarkInv.shades : ∀ (l : List Int) {a : Ar} {xs : List Int}, MarkInv a0 a ts rs r xs dn → (∀ v ∈ l, a0.is v = true → Rch a0 ts rs v) →
    MarkInv a0 (shAll a xs l).1 ts rs r (shAll a xs l).2 dn ∧ (∀ v ∈ l, a0.is v = true → v ∈ dn ∨ v ∈ (shAll a xs l).2) ∧ ∀ x ∈ xs, x ∈ (shAll a xs l).2
  | [], a, xs, h, _ => ⟨h, fun v hv => by simp at hv, fun x hx => hx⟩
  | v :: l, a, xs, h, hl => by
    obtain ⟨h1, h2, h3⟩ := h.shade (hl v (by simp))
    obtain ⟨k1, k2, k3⟩ := MarkInv.shades l h1 fun u hu => hl u (by simp [hu])
    refine ⟨k1, fun u hu hui => ?_, fun x hx => k3 x (h3 x hx)⟩
    rcases List.mem_cons.1 hu with rfl | hu
    · rcases h2 hui with h4 | h4
      · exact .inl h4
      · exact .inr (k3 _ h4)
    · exact k2 u hu hui

/-- One more root is shaded. -/
theorem MarkInv.root (h : MarkInv a0 a ts r r xs dn) (v : Int) : MarkInv a0 (shA a v) ts (r ++ [v]) (r ++ [v]) (shQ a xs v) dn := by
  have h1 : MarkInv a0 a ts (r ++ [v]) r xs dn := { h with sound := fun x hx => (h.sound x hx).mono fun y hy => by simp [hy] }
  obtain ⟨k1, k2, k3⟩ := h1.shade (v := v) fun hi => .root (by simp) hi
  refine { k1 with roots := fun x hx hxi => ?_ }
  rcases List.mem_append.1 hx with hx | hx
  · exact k1.roots x hx hxi
  · rw [List.mem_singleton.1 hx] at hxi ⊢
    exact k2 hxi

theorem shAll_cons : ∀ (l : List Int) (a : Ar) (x : Int) (q : List Int), (shAll a (x :: q) l).1 = (shAll a q l).1 ∧ (shAll a (x :: q) l).2 = x :: (shAll a q l).2
  | [], _, _, _ => ⟨rfl, rfl⟩
  | v :: l, a, x, q => by
    have e : shQ a (x :: q) v = x :: shQ a q v := by
      unfold shQ
      split <;> rfl
    show (shAll (shA a v) (shQ a (x :: q) v) l).1 = (shAll (shA a v) (shQ a q v) l).1 ∧ (shAll (shA a v) (shQ a (x :: q) v) l).2 = x :: (shAll (shA a v) (shQ a q v) l).2
    rw [e]
    exact shAll_cons l _ x _

/-- A grey one is looked at. -/
theorem MarkInv.step {x : Int} {q : List Int} (h : MarkInv a0 a ts rs r (x :: q) dn) : MarkInv a0 (shAll a q (fieldsOf a ts x)).1 ts rs r (shAll a q (fieldsOf a ts x)).2 (dn ++ [x]) := by
  rw [h.same.fields]
  have hx := h.sound x (.inr (by simp))
  obtain ⟨k1, k2, k3⟩ := h.shades (fieldsOf a0 ts x) fun v hv hvi => .step hx hv hvi
  obtain ⟨e1, e2⟩ := shAll_cons (fieldsOf a0 ts x) a x q
  rw [e1, e2] at k1
  rw [e2] at k2
  generalize (shAll a q (fieldsOf a0 ts x)).1 = a' at *
  generalize (shAll a q (fieldsOf a0 ts x)).2 = q' at *
  have mv : ∀ y, (y ∈ dn ∨ y ∈ x :: q') ↔ (y ∈ dn ++ [x] ∨ y ∈ q') := fun y => by
    simp only [List.mem_append, List.mem_cons, List.not_mem_nil, or_false]
    constructor
    · rintro (h | h | h)
      · exact .inl (.inl h)
      · exact .inl (.inr h)
      · exact .inr h
    · rintro ((h | h) | h)
      · exact .inl h
      · exact .inr (.inl h)
      · exact .inr (.inr h)
  refine ⟨k1.same, k1.ok, by simpa using k1.nd, fun y hy => (k1.mk_ y hy).trans (mv y), fun y hy => k1.sound y ((mv y).2 hy), fun y hy z hz hzi => (mv z).1 ?_, fun y hy hyi => (mv y).1 (k1.roots y hy hyi)⟩
  rcases List.mem_append.1 hy with h1 | h1
  · exact k1.closed y h1 z hz hzi
  · rw [List.mem_singleton.1 h1] at hz
    exact k2 z hz hzi

/-- Nothing is grey any more: what was looked at is what can be come to. -/
theorem MarkInv.done (h : MarkInv a0 a ts r r [] dn) (x : Int) : x ∈ dn ↔ Rch a0 ts r x := by
  refine ⟨fun hx => h.sound x (.inl hx), fun hr => ?_⟩
  induction hr with
  | root h1 h2 => simpa using h.roots _ h1 h2
  | step _ h2 h3 ih => simpa using h.closed _ ih _ h2 h3

theorem MarkInv.dnLen (h : MarkInv a0 a ts rs r xs dn) : dn.length + xs.length ≤ 32768 := by
  have := nodup_bound 32768 (dn ++ xs) h.nd fun x hx => is_range (h.sound x (List.mem_append.1 hx)).is
  simpa using this

/-! ### The marks counted -/

/-- The addresses that a span's marks speak of. -/
def mkL (a : Ar) (s : Int) : Nat → List Int
  | 0 => []
  | k + 1 => mkL a s k ++ (if (a.mrk s).testBit k then [s * 64 + k * wds (a.clsAt s)] else [])
def mkLs (a : Ar) : Nat → List Int
  | 0 => []
  | s + 1 => mkLs a s ++ mkL a ((s : Int) + 1) 64

theorem mkL_len (a : Ar) (s : Int) (k : Nat) : (mkL a s k).length = onesTo (a.mrk s) k := by
  induction k with
  | zero => rfl
  | succ k ih =>
    simp only [mkL, List.length_append, ih, onesTo]
    cases (a.mrk s).testBit k <;> simp

theorem mkL_mem {a : Ar} {s x : Int} {k : Nat} : x ∈ mkL a s k ↔ ∃ j : Nat, j < k ∧ (a.mrk s).testBit j = true ∧ x = s * 64 + j * wds (a.clsAt s) := by
  induction k with
  | zero => simp [mkL]
  | succ k ih =>
    simp only [mkL, List.mem_append, ih]
    constructor
    · rintro (⟨j, h1, h2⟩ | h)
      · exact ⟨j, by omega, h2⟩
      · split at h
        · rename_i hb
          exact ⟨k, by omega, hb, by simpa using h⟩
        · simp at h
    · rintro ⟨j, h1, h2, h3⟩
      by_cases e : j = k
      · subst e
        right
        rw [if_pos h2]
        simpa using h3
      · exact .inl ⟨j, by omega, h2, h3⟩

/-- A bit of a span's marks is an object. -/
theorem bit_is (hg : a.Good) (h5 : a.sp.length ≤ 512) (hok : a.MkOk) {s : Int} (hs : a.has s = true) {j : Nat} (hj : (a.mrk s).testBit j = true) : a.is (s * 64 + j * wds (a.clsAt s)) = true ∧ a.marked (s * 64 + j * wds (a.clsAt s)) = true ∧ spn (s * 64 + j * wds (a.clsAt s)) = s ∧ (a.place (s * 64 + j * wds (a.clsAt s))).toNat = j := by
  obtain ⟨x, hx, hm, hc, ht, hmk⟩ := Ar.at hs
  have htb : (a.tak s).testBit j = true := by rw [ht]; exact hok x hm j (by rw [← hmk]; exact hj)
  have hlt := hg.at hs
  have hjp : (j : Int) < plc (a.clsAt s) := by
    refine Classical.byContradiction fun hn => ?_
    have hp := plc_bd (a.clsAt s)
    rw [Nat.testBit_lt_two_pow (Nat.lt_of_lt_of_le hlt (Nat.pow_le_pow_right (by omega) (by omega)))] at htb
    cases htb
  have h1 := is_adr h5 hs (p := j) (by omega) hjp
  rw [Int.toNat_natCast, htb] at h1
  have hss : 1 ≤ s ∧ s < a.sp.length := by unfold Ar.has at hs; simpa using hs
  have h2 := adr_spn (c := a.clsAt s) (p := j) hss.1 (by omega) (by omega) hjp
  obtain ⟨s', q, q1, q2, q3, q4, q5, q6, q7, q8, q9⟩ := is_place h1
  rw [h2] at q4
  subst q4
  have hw : 0 < wds (a.clsAt s) := by
    generalize a.clsAt s = c at *
    rcases cls_cases c with h | h | h | h | h | h | h
    all_goals first | omega | (rw [h]; decide)
  have e : (j : Int) = q := by
    have h3 : (j : Int) * wds (a.clsAt s) = q * wds (a.clsAt s) := by omega
    exact Int.eq_of_mul_eq_mul_right (by omega) h3
  have h4 : (a.place (s * 64 + j * wds (a.clsAt s))).toNat = j := by rw [q5, ← e, Int.toNat_natCast]
  refine ⟨h1, ?_, h2, h4⟩
  unfold Ar.marked
  rw [h2, h4]
  exact hj

theorem mkL_nodup (hg : a.Good) (h5 : a.sp.length ≤ 512) (hok : a.MkOk) {s : Int} (hs : a.has s = true) (k : Nat) : (mkL a s k).Nodup := by
  induction k with
  | zero => exact List.nodup_nil
  | succ k ih =>
    simp only [mkL]
    rw [List.nodup_append]
    refine ⟨ih, by split <;> simp, fun x hx y hy => ?_⟩
    split at hy
    · rename_i hb
      rw [List.mem_singleton.1 hy]
      rintro rfl
      obtain ⟨j, h1, h2, h3⟩ := mkL_mem.1 hx
      have e1 := (bit_is hg h5 hok hs h2).2.2.2
      have e2 := (bit_is hg h5 hok hs hb).2.2.2
      rw [← h3, e2] at e1
      omega
    · simp at hy

theorem mkLs_mem {n : Nat} {x : Int} : x ∈ mkLs a n ↔ ∃ s : Nat, s < n ∧ x ∈ mkL a ((s : Int) + 1) 64 := by
  induction n with
  | zero => simp [mkLs]
  | succ n ih =>
    simp only [mkLs, List.mem_append, ih]
    constructor
    · rintro (⟨s, h1, h2⟩ | h)
      · exact ⟨s, by omega, h2⟩
      · exact ⟨n, by omega, h⟩
    · rintro ⟨s, h1, h2⟩
      by_cases e : s = n
      · subst e; exact .inr h2
      · exact .inl ⟨s, by omega, h2⟩

theorem mkLs_nodup (hg : a.Good) (h5 : a.sp.length ≤ 512) (hok : a.MkOk) (n : Nat) (hn : n + 1 ≤ a.sp.length) : (mkLs a n).Nodup := by
  induction n with
  | zero => exact List.nodup_nil
  | succ n ih =>
    simp only [mkLs]
    have hh : ∀ s : Nat, s < n + 1 → a.has ((s : Int) + 1) = true := fun s hs => has_of (by omega) (by omega)
    rw [List.nodup_append]
    refine ⟨ih (by omega), mkL_nodup hg h5 hok (hh n (by omega)) 64, fun x hx y hy => ?_⟩
    rintro rfl
    obtain ⟨s, h1, h2⟩ := mkLs_mem.1 hx
    obtain ⟨j, _, j2, j3⟩ := mkL_mem.1 h2
    obtain ⟨k, _, k2, k3⟩ := mkL_mem.1 hy
    have e1 := (bit_is hg h5 hok (hh s (by omega)) j2).2.2.1
    have e2 := (bit_is hg h5 hok (hh n (by omega)) k2).2.2.1
    rw [← j3] at e1
    rw [← k3, e1] at e2
    omega

/-- The marks speak of the marked objects. -/
theorem mkLs_iff (hg : a.Good) (h5 : a.sp.length ≤ 512) (hok : a.MkOk) {n : Nat} (hn : n + 1 = a.sp.length) (x : Int) : x ∈ mkLs a n ↔ a.is x = true ∧ a.marked x = true := by
  constructor
  · intro hx
    obtain ⟨s, h1, h2⟩ := mkLs_mem.1 hx
    obtain ⟨j, _, j2, j3⟩ := mkL_mem.1 h2
    have := bit_is hg h5 hok (has_of (by omega) (by omega)) j2
    rw [← j3] at this
    exact ⟨this.1, this.2.1⟩
  · rintro ⟨h1, h2⟩
    obtain ⟨s, q, q1, q2, q3, q4, q5, q6, q7, q8, q9⟩ := is_place h1
    have hss : 1 ≤ s ∧ s < a.sp.length := by unfold Ar.has at q1; simpa using q1
    refine mkLs_mem.2 ⟨(s - 1).toNat, by omega, ?_⟩
    rw [show (((s - 1).toNat : Nat) : Int) + 1 = s from by omega]
    refine mkL_mem.2 ⟨q.toNat, by omega, ?_, by rw [q6]; rw [show ((q.toNat : Nat) : Int) = q from by omega]⟩
    unfold Ar.marked at h2
    rw [q4, q5] at h2
    exact h2

/-- Two lists without repetition and with the same members are as long. -/
theorem len_eq {l l' : List Int} (h : l.Nodup) (h' : l'.Nodup) (hm : ∀ x, x ∈ l ↔ x ∈ l') : l.length = l'.length :=
  ((List.perm_ext_iff_of_nodup h h').2 hm).length_eq

end
end Go.Proofs.YtkfdbgpegekcfaaGreatDoorP

namespace Go.Proofs.YtkfdbgpegekcfaaGreatDoorP
open Go Go.GL Go.GLM Go.Proofs

abbrev I64 (x : Int) : Prop := -9223372036854775808 ≤ x ∧ x < 9223372036854775808

theorem put_sp (a : Ar) (p f x : Int) : (a.put p f x).sp = a.sp := by
  unfold Ar.put
  split <;> rfl

theorem put_wf {a : Ar} (h : a.Wf) {p f x : Int} (hx : I64 x) : (a.put p f x).Wf := by
  unfold Ar.put
  split
  · intro y hy
    rcases List.mem_or_eq_of_mem_set hy with h1 | h1
    · exact h y h1
    · rw [h1]; exact hx
  · exact h

theorem fillF_sp (at_ : List Int) (p : Int) (to : List Int) (a : Ar) (n : Nat) : (fillF at_ p to a n).sp = a.sp := by
  induction n with
  | zero => rfl
  | succ n ih => rw [fillF, put_sp, ih]

theorem fillT_sp (at_ : List Int) (a : Ar) (x : Th7) (p : Int) : (fillT at_ a x p).sp = a.sp := by
  unfold fillT
  split
  · rfl
  · rw [fillF_sp, put_sp]

theorem fillAll_sp (at_ : List Int) (l : List Th7) (a : Ar) (n : Nat) : (fillAll at_ l a n).sp = a.sp := by
  induction n with
  | zero => rfl
  | succ n ih => rw [fillAll, fillT_sp, ih]

theorem valOf_in {at_ : List Int} {v : Int} (ha : ∀ x ∈ at_, I64 x) (hv : I64 v) : I64 (valOf at_ v) := by
  unfold valOf
  split
  · cases h : at_[v.toNat]? with
    | none => rw [Option.getD_none]; exact ⟨by omega, by omega⟩
    | some x => exact ha x (List.mem_of_getElem? h)
  · exact hv

theorem fillF_wf {at_ : List Int} (ha : ∀ x ∈ at_, I64 x) {p : Int} {to : List Int} (ht : ∀ v ∈ to, I64 v) {a : Ar} (h : a.Wf) (n : Nat) : (fillF at_ p to a n).Wf := by
  induction n with
  | zero => exact h
  | succ n ih =>
    rw [fillF]
    refine put_wf ih (valOf_in ha ?_)
    cases hx : to[n]? with
    | none => exact ⟨by rw [Option.getD_none]; omega, by rw [Option.getD_none]; omega⟩
    | some x => exact ht x (List.mem_of_getElem? hx)

theorem kindOf_bd (s : Int) : 0 ≤ kindOf (kOf s) ∧ kindOf (kOf s) ≤ 1 := by
  have hb := kOf_bd s
  obtain ⟨x, _, h1, h2, h3⟩ := kind_at (kOf s) hb.1 hb.2
  omega

theorem fillT_wf {at_ : List Int} (ha : ∀ x ∈ at_, I64 x) {a : Ar} {x : Th7} (ht : ∀ v ∈ x.2.2, I64 v) (h : a.Wf) (p : Int) : (fillT at_ a x p).Wf := by
  unfold fillT
  split
  · exact h
  · have h1 := szOf_bd x.1 x.2.1
    have h2 := kindOf_bd x.1
    have h3 := kOf_bd x.1
    exact fillF_wf ha ht (put_wf h ⟨by omega, by omega⟩) _

theorem fillAll_wf {at_ : List Int} (ha : ∀ x ∈ at_, I64 x) {l : List Th7} (hl : ∀ x ∈ l, ∀ v ∈ x.2.2, I64 v) {a : Ar} (h : a.Wf) (n : Nat) : (fillAll at_ l a n).Wf := by
  induction n with
  | zero => exact h
  | succ n ih =>
    rw [fillAll]
    refine fillT_wf ha (fun v hv => ?_) ih _
    cases hx : l[n]? with
    | none => rw [hx] at hv; simp at hv
    | some x => rw [hx] at hv; exact hl x (List.mem_of_getElem? hx) v hv

theorem world_takes {n : Nat} (hn : n ≤ 512) (l : List Th7) : TakesTo (takesN (ar0 n) (szs l) l.length).1 (szs l) (worldAt n l) ∧ (takesN (ar0 n) (szs l) l.length).1.sp.length = n := by
  have := takesN_to (ar0_fine hn) (ar0_bare n) (ar0_is n) (szs_cls l) l.length (by simp [szs])
  refine ⟨this.1, this.2.trans (by simp [ar0])⟩

theorem worldAt_len (n : Nat) (l : List Th7) : (worldAt n l).length = l.length := takesN_len _ _ _

theorem worldAt_in {n : Nat} (hn : n ≤ 512) (l : List Th7) : ∀ x ∈ worldAt n l, 0 ≤ x ∧ x < 32768 := by
  intro x hx
  obtain ⟨h1, _⟩ := world_takes hn l
  by_cases h0 : x = 0
  · omega
  · obtain ⟨i, hi⟩ := List.getElem?_of_mem hx
    have hil := (List.getElem?_eq_some_iff.1 hi).1
    rw [worldAt_len] at hil
    have hw : (szs l)[i]? = some ((szs l)[i]'(by simpa [szs] using hil)) := by simp
    exact is_range (h1.made i _ x hw hi h0).1

theorem same_sp {a b : Ar} (h : b.sp = a.sp) (x : Int) : b.is x = a.is x ∧ b.clsAt x = a.clsAt x := by
  have h1 : ∀ i, b.clsAt i = a.clsAt i := fun i => by unfold Ar.clsAt Ar.has; rw [h]
  have h2 : ∀ i, b.tak i = a.tak i := fun i => by unfold Ar.tak; rw [h]
  refine ⟨?_, h1 x⟩
  unfold Ar.is Ar.place
  rw [h1, h2]

theorem worldAr_fine {n : Nat} (hn : n ≤ 512) {l : List Th7} (hl : ∀ x ∈ l, ∀ v ∈ x.2.2, I64 v) : (worldAr n l).Fine ∧ (worldAr n l).Bare ∧ (worldAr n l).sp.length = n := by
  obtain ⟨h1, h2⟩ := world_takes hn l
  have hat : ∀ x ∈ worldAt n l, I64 x := fun x hx => by have := worldAt_in hn l x hx; exact ⟨by omega, by omega⟩
  have hsp : (worldAr n l).sp = (takesN (ar0 n) (szs l) l.length).1.sp := fillAll_sp _ _ _ _
  refine ⟨⟨?_, by rw [hsp, h2]; exact hn, by rw [hsp]; exact h1.fine.cl, fillAll_wf hat hl h1.fine.wf _⟩, ?_, by rw [hsp, h2]⟩
  · intro s hs
    rw [hsp] at hs
    exact h1.fine.good s hs
  · intro s hs
    rw [hsp] at hs
    exact h1.bare s hs

end Go.Proofs.YtkfdbgpegekcfaaGreatDoorP

namespace Go.Proofs.YtkfdbgpegekcfaaGreatDoorP
open Go Go.GL Go.GLM Go.Proofs Go.Maps
attribute [local irreducible] rawV rawN rawU Tryz.prog takesN fillAll worldAr worldAt Ar.markAt shapeL

theorem w7M_at (h0 : H) (c : WC) (a : Ar) (q : Option Addr) (cq : Nat) (at_ : List Int) : MkAt (w7G h0 c a q cq at_) (w7M c) a shapeL [] := ⟨rfl, rfl, rfl, rfl, by show (1 ≠ 2 ∧ 1 ≠ 4 ∧ 1 ≠ 3 ∧ 2 ≠ 3 ∧ 4 ≠ 3); decide⟩

/-- The parts of a world, its marks and its queue as they are now. -/
def wMk (h0 : H) (c : WC) (a : Ar) (xs : List Int) (q : Option Addr) (cq : Nat) (at_ : List Int) : List Asrt :=
  [oldA h0, arA c.A c.B c.W a, tbA c.T shapeL, quA c.Q xs, blkA c.M 99 [.pointer (some ⟨c.A, 0, none⟩), .pointer (some ⟨c.T, 0, none⟩), .pointer (some ⟨c.Q, 0, none⟩)], rowA 2 1 q at_.length cq (at_.map (Value.int .i64 ·))]

theorem wMk_at (h0 : H) (c : WC) (a : Ar) (xs : List Int) (q : Option Addr) (cq : Nat) (at_ : List Int) : MkAt (wMk h0 c a xs q cq at_) (w7M c) a shapeL xs := ⟨rfl, rfl, rfl, rfl, by show (1 ≠ 2 ∧ 1 ≠ 4 ∧ 1 ≠ 3 ∧ 2 ≠ 3 ∧ 4 ≠ 3); decide⟩

theorem wMk_put (h0 : H) (c : WC) (a a' : Ar) (xs xs' : List Int) (q : Option Addr) (cq : Nat) (at_ : List Int) (Δ : List Asrt) : (w7M c).put (wMk h0 c a xs q cq at_ ++ Δ) a' xs' = wMk h0 c a' xs' q cq at_ ++ Δ := rfl

section
variable {h : H}

theorem src_at {h : H} {p : Option Addr} {n c : Nat} {xs : List Int} (hs : Src h 1 p n c (xs.map (Value.int .i64 ·))) : n = xs.length := by
  have := hs.1
  simp at this
  omega

theorem law7_MarkAll_C (hT : Tab h) {xp rp : Option Addr} {xc rc : Nat} {l : List Th7} {roots : List Int} (ha : ThAt h xp l) (hlw : ∀ x ∈ l, ∀ v ∈ x.2.2, I64 v)
    (hr : Src h 1 rp roots.length rc (roots.map (Value.int .i64 ·))) {K : Bool → H → Prop} (hk : ∀ h', Fr noB h h' → K true h') : gantlinelaw7_MarkAll.C xp l.length xc rp roots.length rc h K := by
  refine gantlinelaw7_MarkAll.of ?_
  unfold gantlinelaw7_MarkAll.S joinP
  refine law7_awake_C hT fun g1 f1 => split_false (split_of (fun h1 => hk g1 f1) fun h1 => split_of (fun h2 => hk g1 f1) fun h2 => ?_)
  simp at h1 h2
  have ha1 := ha.fr fun _ _ hc => Fr.cell f1 hc
  refine law7_world_C (n := 10) (hT.fr f1 fun h => h) ha1 (by omega) (by decide) (by decide) fun g2 c q cq hs2 => split_false ?_
  obtain ⟨hfine, hbare, hlen⟩ := worldAr_fine (n := 10) (by decide) hlw
  have hatl := worldAt_len 10 l
  have hatin := worldAt_in (n := 10) (by decide) l
  generalize worldAt 10 l = at_ at *
  generalize worldAr 10 l = a0 at *
  have hs2' : Sat g2 (wMk g1 c a0 [] q cq at_ ++ [rowA 2 1 none 0 0 []]) := hs2.rowNil 2 1
  have arg : ∀ {h' : H} {Γ : List Asrt}, Sat h' Γ → Γ[0]? = some (oldA g1) → Src h' 1 rp roots.length rc (roots.map (Value.int .i64 ·)) := fun hs' hi => hr.fr fun _ _ hc => Sat.oldCell hs' hi (Fr.cell f1 hc)
  have hI : ∀ x ∈ at_, I64 x := fun x hx => by have := hatin x hx; exact ⟨by omega, by omega⟩
  -- the roots
  refine loop_of (fun t h' => ∃ r a xs c', 0 ≤ t.1 ∧ t.1 ≤ roots.length ∧ t.2.1.2 = (r.length, c') ∧ (r.length : Int) ≤ t.1 ∧ (∀ x ∈ r, x ∈ at_) ∧ MarkInv a0 a shapeL r r xs [] ∧
      Sat h' (wMk g1 c a xs q cq at_ ++ [rowA 2 1 t.2.1.1 r.length c' (r.map (Value.int .i64 ·))])) (fun t _ => (roots.length - t.1).toNat)
    ⟨[], a0, [], 0, by simp, by simp, rfl, by simp, by simp, .start hbare, hs2'⟩ ?_
  rintro ⟨i, ⟨rq, k1, k2⟩, _⟩ g3 ⟨r, a, xs, c', i0, i1, he, hrl, hrat, hinv, hs3⟩
  simp only [Prod.mk.injEq] at he
  obtain ⟨rfl, rfl⟩ := he
  simp only at i0 i1 hrl hs3 ⊢
  have hdn := hinv.dnLen
  simp only [List.length_nil, Nat.zero_add] at hdn
  refine split_of (fun h3 => ?_) fun h3 => ?_
  · simp at h3
    have hlt : i.toNat < roots.length := by omega
    have hx : roots[i.toNat]? = some roots[i.toNat] := by simp [hlt]
    generalize roots[i.toNat] = v at *
    rw [wrap64_id (by omega) (by omega)]
    have skip : (∃ r' a xs c', 0 ≤ i + 1 ∧ i + 1 ≤ (roots.length : Int) ∧ (r.length, k2) = (r'.length, c') ∧ (r'.length : Int) ≤ i + 1 ∧ (∀ x ∈ r', x ∈ at_) ∧ MarkInv a0 a shapeL r' r' xs [] ∧
        Sat g3 (wMk g1 c a xs q cq at_ ++ [rowA 2 1 rq r'.length c' (r'.map (Value.int .i64 ·))])) ∧ (roots.length - (i + 1)).toNat < (roots.length - i).toNat :=
      ⟨⟨r, a, xs, k2, by omega, by omega, rfl, by omega, hrat, hinv, hs3⟩, by omega⟩
    refine src_idx (arg hs3 rfl) i0 hx fun ad had => ldI_of had (split_of (fun h4 => ?_) fun h4 => skip)
    refine src_idx (arg hs3 rfl) i0 hx fun ad had => ldI_of had (split_of (fun h5 => ?_) fun h5 => skip)
    simp at h4 h5
    have hv : at_[v.toNat]? = some (at_[v.toNat]'(by omega)) := by simp
    have hvm : at_[v.toNat]'(by omega) ∈ at_ := List.getElem_mem _
    generalize at_[v.toNat]'(by omega) = p at *
    refine src_idx (arg hs3 rfl) i0 hx fun ad had => ldI_of had (rowA_idx hs3 (i := 5) rfl (x := .int .i64 p) h4 (by rw [List.getElem?_map, hv]; rfl) fun ad2 had2 => ldI_of had2 (nW fun g4 f4 s4 b4 => ?_))
    refine rowApp_of ty_words in_word int_one (by decide) (hs3.fr f4) (i := 6) rfl (src_one b4) (by intro u hu; rw [List.mem_singleton.1 hu]; rfl) (by simp only [maxLen]; omega) (by omega) fun q5 c5 g5 hs5 => ⟨_, _, _, rfl, ?_⟩
    have hs5' : Sat g5 (wMk g1 c a xs q cq at_ ++ [rowA 2 1 q5 (r.length + 1) c5 (r.map (Value.int .i64 ·) ++ [Value.int .i64 p])]) := hs5
    refine src_idx (arg hs5' rfl) i0 hx fun ad had => ldI_of had (rowA_idx hs5' (i := 5) rfl (x := .int .i64 p) h4 (by rw [List.getElem?_map, hv]; rfl) fun ad2 had2 => ldI_of had2 ?_)
    refine mark_Shade_C hs5' ((wMk_at g1 c a xs q cq at_).app) (by omega) fun g6 hs6 => ?_
    rw [wMk_put] at hs6
    refine ⟨⟨r ++ [p], shA a p, shQ a xs p, c5, by omega, by omega, by simp, by simp; omega, fun x hx => ?_, hinv.root p, ?_⟩, by omega⟩
    · rcases List.mem_append.1 hx with h6 | h6
      · exact hrat x h6
      · rw [List.mem_singleton.1 h6]; exact hvm
    · rw [List.length_append, List.map_append]
      exact hs6
  · simp at h3
    obtain rfl : i = roots.length := by omega
    have wfa : a.Wf := hinv.same.wf hfine.wf
    have hm3 := wMk_at g1 c a xs q cq at_
    refine mark_Reach_C hs3 (hm3.app) shape_small wfa (rowA_at hs3 (i := 6) rfl).src (by omega) (fun x hx => hI x (hrat x hx)) fun g4 qa ca all hs4 hall hsorted => ?_
    have hall0 : ∀ x, x ∈ all ↔ Rch a0 shapeL r x := fun x => (hall x).trans ⟨fun h => hinv.same.rch h, fun h => hinv.same.symm.rch h⟩
    have hs4' : Sat g4 (wMk g1 c a xs q cq at_ ++ [rowA 2 1 qa all.length ca (all.map (Value.int .i64 ·))]) := by
      rw [List.append_assoc] at hs4
      exact hs4.pick [1] (by decide) rfl
    have hand : all.Nodup := hsorted.imp fun h => by omega
    clear hs4 hs3
    -- the steps
    refine loop_rel (fun t h' k => ∃ a xs dn, 0 ≤ t.1 ∧ t.1 = (dn.length : Int) ∧ k = 32768 - dn.length ∧ MarkInv a0 a shapeL r r xs dn ∧ Sat h' (wMk g1 c a xs q cq at_ ++ [rowA 2 1 qa all.length ca (all.map (Value.int .i64 ·))])) 32768
      ⟨a, xs, [], by simp, rfl, rfl, hinv, hs4'⟩ ?_
    rintro ⟨n, _⟩ g5 k ⟨a, xs, dn, n0, hn, rfl, hinv, hs5⟩ J hJ
    simp only at n0 hn hs5 ⊢
    subst hn
    have hdl := hinv.dnLen
    have hm5 := wMk_at g1 c a xs q cq at_
    refine mark_Step_C hs5 hm5.app shape_small (by omega) (fun hxs => split_false ?_) fun x t hxs g6 hs6 => split_true ?_
    · subst hxs
      have hdone := hinv.done
      have hdnd : dn.Nodup := by simpa using hinv.nd
      have hlen2 : dn.length = all.length := len_eq hdnd hand fun x => (hdone x).trans (hall0 x).symm
      have himk : ∀ x ∈ all, a.is x = true ∧ a.marked x = true := fun x hx => by
        have h0 := (hall0 x).1 hx
        have hi0 := h0.is
        exact ⟨by rw [hinv.same.is]; exact hi0, (hinv.mk_ x hi0).2 (.inl ((hdone x).2 h0))⟩
      refine loop_of (fun t h' => h' = g5 ∧ 0 ≤ t.1 ∧ t.1 ≤ all.length) (fun t _ => (all.length - t.1).toNat) ⟨rfl, by simp, by simp⟩ ?_
      rintro ⟨i, _⟩ g7 ⟨rfl, i0, i1⟩
      simp only at i0 i1 ⊢
      refine split_of (fun h4 => ?_) fun h4 => ?_
      · simp at h4
        have hlt : i.toNat < all.length := by omega
        have hx : (all.map (Value.int .i64 ·))[i.toNat]? = some (.int .i64 all[i.toNat]) := by rw [List.getElem?_map]; simp [hlt]
        have him := himk all[i.toNat] (List.getElem_mem hlt)
        rw [wrap64_id (x := i + 1) (by omega) (by omega)]
        have next : (g7 = g7 ∧ 0 ≤ i + 1 ∧ i + 1 ≤ (all.length : Int)) ∧ (all.length - (i + 1)).toNat < (all.length - i).toNat := ⟨⟨rfl, by omega, by omega⟩, by omega⟩
        refine rowA_idx hs5 (i := 6) rfl i0 hx fun ad had => ldI_of had (arena_Mark_C (arA_at hs5 (i := 1) rfl) (fun _ => split_false ?_) fun _ hmk => by rw [him.2] at hmk; cases hmk)
        refine rowA_idx hs5 (i := 6) rfl i0 hx fun ad had => ldI_of had (arena_Is_C (arA_at hs5 (i := 1) rfl) ?_)
        rw [him.1]
        refine split_false (split_of (fun h5 => ?_) fun h5 => next)
        simp at h5
        have hx' : (all.map (Value.int .i64 ·))[(i - 1).toNat]? = some (.int .i64 (all[(i - 1).toNat]'(by omega))) := by rw [List.getElem?_map]; simp
        rw [wrap64_id (x := i - 1) (by omega) (by omega)]
        refine rowA_idx hs5 (i := 6) rfl i0 hx fun ad had => rowA_idx hs5 (i := 6) rfl (by omega) hx' fun ad2 had2 => ldI_of had (ldI_of had2 (split_neg ?_ next))
        have := List.pairwise_iff_getElem.1 hsorted (i - 1).toNat i.toNat (by omega) hlt (by omega)
        exact decide_eq_false (Int.not_le.2 this)
      · -- the marks counted
        have hg : a.Good := hinv.same.good hfine.good
        have hsl : a.sp.length = 10 := hinv.same.len.trans hlen
        have hcount : (mkLs a 9).length = all.length := len_eq (mkLs_nodup hg (by omega) hinv.ok 9 (by omega)) hand fun x => by
          rw [mkLs_iff hg (by omega) hinv.ok (by omega), hall0 x]
          constructor
          · rintro ⟨h5, h6⟩
            have hi0 : a0.is x = true := by rw [← hinv.same.is]; exact h5
            rcases (hinv.mk_ x hi0).1 h6 with h7 | h7
            · exact (hdone x).1 h7
            · simp at h7
          · intro h5
            exact himk x ((hall0 x).2 h5)
        refine loop_of (fun t h' => h' = g7 ∧ 1 ≤ t.1 ∧ t.1 ≤ 10 ∧ t.2.1 = ((mkLs a (t.1 - 1).toNat).length : Int)) (fun t _ => (10 - t.1).toNat) ⟨rfl, by simp, by simp, rfl⟩ ?_
        rintro ⟨s, sum, _⟩ g8 ⟨rfl, s0, s1, hsum⟩
        simp only at s0 s1 hsum ⊢
        refine split_of (fun h5 => ?_) fun h5 => ?_
        · simp at h5
          have hh := has_of (a := a) s0 (by omega)
          obtain ⟨sx, hsx, hsm, hc, ht, hmk⟩ := Ar.at hh
          have hb64 := ((arA_at hs5 (i := 1) rfl).ok.bits sx hsm).2
          have hmz : (if a.clsAt s = -1 then 0 else (a.mrk s : Int)) = (a.mrk s : Int) := by
            split
            · rename_i hcm
              have := hg.at hh
              rw [hcm] at this
              have ht0 : a.tak s = 0 := by simpa [plc] using this
              have : a.mrk s = 0 := Nat.eq_of_testBit_eq fun k => by
                rw [Nat.zero_testBit]
                cases hk : (a.mrk s).testBit k with
                | false => rfl
                | true =>
                  have := hinv.ok sx hsm k (by rw [← hmk]; exact hk)
                  rw [← ht, ht0] at this
                  simp at this
              rw [this]; rfl
            · rfl
          refine arena_Marked_C (arA_at hs5 (i := 1) rfl) ?_
          rw [hmz]
          refine ref1_Ones_C (by rw [hmk]; exact hb64) ?_
          have hml := mkL_len a s 64
          have hol := onesTo_le (a.mrk s) 64
          have hmb : (mkLs a (s - 1).toNat).length ≤ 640 := by
            have : ∀ n, (mkLs a n).length ≤ n * 64 := fun n => by
              induction n with
              | zero => simp [mkLs]
              | succ n ih =>
                simp only [mkLs, List.length_append]
                have h7 := mkL_len a ((n : Int) + 1) 64
                have h8 := onesTo_le (a.mrk ((n : Int) + 1)) 64
                omega
            have := this (s - 1).toNat
            omega
          rw [wrap64_id (by omega) (by omega), wrap64_id (by omega) (by omega)]
          refine ⟨⟨by first | rfl | trivial, by omega, by omega, ?_⟩, by omega⟩
          rw [show (s + 1 - 1).toNat = (s - 1).toNat + 1 from by omega, mkLs, List.length_append, show (((s - 1).toNat : Nat) : Int) + 1 = s from by omega, hml, hsum]
          omega
        · simp at h5
          obtain rfl : s = 10 := by omega
          have e9 : ((10 : Int) - 1).toNat = 9 := rfl
          rw [e9, hcount] at hsum
          subst hsum
          refine split_pos (by simp) ?_
          have := hk g8 (f1.trans (hs5.oldFr (i := 0) rfl))
          rw [show ((dn.length : Int) == (all.length : Int)) = true from by rw [hlen2]; simp]
          exact this
    · subst hxs
      rw [wMk_put] at hs6
      have hst := hinv.step
      have hdl2 := hst.dnLen
      simp only [List.length_append, List.length_cons, List.length_nil] at hdl2
      rw [wrap64_id (by omega) (by omega)]
      exact hJ _ _ (32768 - (dn ++ [x]).length) (by simp; omega) ⟨_, _, dn ++ [x], by simp; omega, by simp, rfl, hst, hs6⟩

end
end Go.Proofs.YtkfdbgpegekcfaaGreatDoorP

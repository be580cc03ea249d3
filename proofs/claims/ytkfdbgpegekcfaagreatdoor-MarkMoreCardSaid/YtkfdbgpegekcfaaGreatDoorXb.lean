/-
  Lemmas on heaps for contracts (L1): blocks, loads, stores, new blocks; numbers.
  Lemmas on the bits of 64-bit numbers (L2).
  The least bit: x and its negative; the table of de Bruijn (L3).
  Rows that a slice owns: made, appended to (L4).
  A part of a row cleared (L5).
  Rows that a slice owns from some place on: appended to, and shortened from the front (L6).
  Parts of a heap, side by side (S1): what is said of a part, a list of parts that share no block, what turns in one of them.
  Maps on the heap, seen as sets of numbers (L7): made, looked up, written.
  Rows as parts of a heap (L8): made, read, appended to.
  Two parts as one (S2); slices of rows.
-/
import Derived.Test.YtkfdbgpegekcfaaGreatDoorXa
import Derived.Laws.AppendOwn
import Derived.Laws.MakeOwn
import Derived.Lib.SliceRun
import Derived.Maps.OwnSet

namespace Go.GL

/-! ### Blocks -/

/-- Block b holds these cells, none of them frozen. -/
def Blk (h : H) (b : Nat) (t : TypeId) (vs : List Value) : Prop := h[b]? = some (.cells ⟨vs⟩ t (0, 0))

theorem Blk.lt {h : H} {b : Nat} {t : TypeId} {vs : List Value} (hb : Blk h b t vs) : b < h.size := (Array.getElem?_eq_some_iff.1 hb).1

theorem Blk.cell {h : H} {b : Nat} {t : TypeId} {vs : List Value} (hb : Blk h b t vs) (o : Nat) : Go.GL.cell h ⟨b, o, none⟩ = vs[o]? := by
  unfold Go.GL.cell
  rw [show h[(⟨b, o, none⟩ : Addr).block]? = h[b]? from rfl, hb]
  simp

theorem Blk.frz {h : H} {b : Nat} {t : TypeId} {vs : List Value} (hb : Blk h b t vs) (o : Nat) : Go.GL.frz h ⟨b, o, none⟩ = false := by
  unfold Go.GL.frz
  rw [show h[(⟨b, o, none⟩ : Addr).block]? = h[b]? from rfl, hb]
  simp

theorem Blk.unique {h : H} {b : Nat} {t t' : TypeId} {vs vs' : List Value} (hb : Blk h b t vs) (hb' : Blk h b t' vs') : t = t' ∧ vs = vs' := by
  unfold Blk at hb hb'
  rw [hb] at hb'
  simp at hb'
  exact ⟨hb'.2, hb'.1⟩

theorem Blk.ne {h : H} {b b' : Nat} {t t' : TypeId} {vs vs' : List Value} (hb : Blk h b t vs) (hb' : Blk h b' t' vs') (ht : t ≠ t') : b ≠ b' := by
  rintro rfl
  exact ht (hb.unique hb').1

@[simp] theorem setC_size (h : H) (a : Addr) (v : Value) : (setC h a v).size = h.size := by simp [setC]

theorem setC_other {h : H} {a : Addr} {v : Value} {b : Nat} (hne : b ≠ a.block) : (setC h a v)[b]? = h[b]? := by
  unfold setC
  rw [Array.getElem?_modify]
  simp [Ne.symm hne]

theorem Blk.set {h : H} {b : Nat} {t : TypeId} {vs : List Value} (hb : Blk h b t vs) (o : Nat) (v : Value) : Blk (setC h ⟨b, o, none⟩ v) b t (vs.set o v) := by
  unfold Blk setC at *
  rw [Array.getElem?_modify]
  simp [hb, Array.setIfInBounds]
  intro hlt
  rw [List.set_eq_of_length_le (by omega)]

theorem Blk.keep {h : H} {b : Nat} {t : TypeId} {vs : List Value} (hb : Blk h b t vs) {a : Addr} {v : Value} (hne : b ≠ a.block) : Blk (setC h a v) b t vs := by
  unfold Blk
  rw [setC_other hne]
  exact hb

theorem Blk.push {h : H} {b : Nat} {t : TypeId} {vs : List Value} (hb : Blk h b t vs) (o : Obj) : Blk (h.push o) b t vs := by
  have hlt := hb.lt
  unfold Blk
  rw [Array.getElem?_push, if_neg (by omega)]
  exact hb

theorem Blk.new (h : H) (t : TypeId) (vs : List Value) : Blk (h.push (.cells ⟨vs⟩ t)) h.size t vs := by
  unfold Blk
  simp

/-- Only blocks in S may have turned; no block is gone. -/
def Fr (S : Nat → Prop) (h h' : H) : Prop := h.size ≤ h'.size ∧ ∀ b, b < h.size → ¬ S b → h'[b]? = h[b]?

def noB : Nat → Prop := fun _ => False

theorem Fr.refl (S : Nat → Prop) (h : H) : Fr S h h := ⟨Nat.le_refl _, fun _ _ _ => rfl⟩
theorem Fr.trans {S : Nat → Prop} {a b c : H} (h : Fr S a b) (h' : Fr S b c) : Fr S a c :=
  ⟨Nat.le_trans h.1 h'.1, fun x hx hs => (h'.2 x (Nat.lt_of_lt_of_le hx h.1) hs).trans (h.2 x hx hs)⟩
theorem Fr.mono {S S' : Nat → Prop} {a b : H} (h : Fr S a b) (hs : ∀ x, S x → S' x) : Fr S' a b := ⟨h.1, fun x hx hn => h.2 x hx fun hx' => hn (hs x hx')⟩
theorem Fr.set (h : H) (a : Addr) (v : Value) : Fr (· = a.block) h (setC h a v) := ⟨by simp, fun b _ hb => setC_other hb⟩
theorem Fr.push (h : H) (o : Obj) : Fr noB h (h.push o) := ⟨by simp, fun b hb _ => by rw [Array.getElem?_push, if_neg (by omega)]⟩
theorem Fr.new {S : Nat → Prop} (h : H) (o : Obj) : Fr S h (h.push o) := (Fr.push h o).mono fun _ hx => hx.elim
theorem Fr.blk {S : Nat → Prop} {h h' : H} (hf : Fr S h h') {b : Nat} {t : TypeId} {vs : List Value} (hb : Blk h b t vs) (hn : ¬ S b) : Blk h' b t vs := by
  unfold Blk
  rw [hf.2 b hb.lt hn]
  exact hb
/-- What is new may be forgotten: a frame over a set of old blocks and of all that was made since. -/
theorem Fr.since {S S' : Nat → Prop} {a b c : H} (h : Fr S a b) (h' : Fr S' b c) (hs : ∀ x, S' x → S x ∨ a.size ≤ x) : Fr S a c := by
  refine ⟨Nat.le_trans h.1 h'.1, fun x hx hn => ?_⟩
  rw [h'.2 x (Nat.lt_of_lt_of_le hx h.1) fun hx' => by
    rcases hs x hx' with h1 | h1
    · exact hn h1
    · omega]
  exact h.2 x hx hn

/-! ### Steps -/

@[simp] theorem add_mk (b o n : Nat) : Addr.add ⟨b, o, none⟩ n = ⟨b, o + n, none⟩ := by
  unfold Addr.add
  split
  · rename_i h; simp [h]
  · rfl

theorem nilC_of {a : Addr} {K : Addr → Prop} (h : K a) : nilC (some a) K := ⟨a, rfl, h⟩
@[simp] theorem nilC_some {a : Addr} {K : Addr → Prop} : nilC (some a) K ↔ K a := ⟨fun ⟨_, h, hk⟩ => by cases h; exact hk, nilC_of⟩
theorem ldI_of {h : H} {a : Addr} {k : IntKind} {n : Int} {K : Int → Prop} (hc : cell h a = some (.int k n)) (hk : K n) : ldI h a k K := ⟨n, hc, hk⟩
theorem ldB_of {h : H} {a : Addr} {b : Bool} {K : Bool → Prop} (hc : cell h a = some (.bool b)) (hk : K b) : ldB h a K := ⟨b, hc, hk⟩
theorem ldP_of {h : H} {a : Addr} {p : Option Addr} {K : Option Addr → Prop} (hc : cell h a = some (.pointer p)) (hk : K p) : ldP h a K := ⟨p, hc, hk⟩
theorem ldL_of {h : H} {a : Addr} {p : Option Addr} {n c : Nat} {K : Option Addr → Nat → Nat → Prop} (hc : cell h a = some (.slice p n c)) (hk : K p n c) : ldL h a K := ⟨p, n, c, hc, hk⟩
theorem ldM_of {h : H} {a : Addr} {r : Option Nat} {K : Option Nat → Prop} (hc : cell h a = some (.map r)) (hk : K r) : ldM h a K := ⟨r, hc, hk⟩
theorem ldF_of {h : H} {a : Addr} {t : TypeId} {v : Value} {K : TypeId → Value → Prop} (hc : cell h a = some (.iface t v)) (hk : K t v) : ldF h a K := ⟨t, v, hc, hk⟩
theorem stC_of {h : H} {b o : Nat} {t : TypeId} {vs : List Value} {v : Value} {K : H → Prop} (hb : Blk h b t vs) (ho : o < vs.length) (hk : K (setC h ⟨b, o, none⟩ v)) : stC h ⟨b, o, none⟩ v K :=
  ⟨⟨⟨vs[o], by rw [hb.cell]; simp [ho]⟩, hb.frz o⟩, hk⟩
theorem newC_of {h : H} {cs : List Value} {t : TypeId} {K : Addr → H → Prop} (hk : K ⟨h.size, 0, none⟩ (h.push (.cells ⟨cs⟩ t))) : newC h cs t K := hk
theorem idx_of {b o len : Nat} {i : Int} {sz : Nat} {K : Addr → Prop} (h0 : 0 ≤ i) (h1 : i < len) (hk : K ⟨b, o + i.toNat * sz, none⟩) : idx (some ⟨b, o, none⟩) len i sz K :=
  ⟨_, rfl, h0, h1, by rw [add_mk]; exact hk⟩
theorem need_of {p K : Prop} (hp : p) (hk : K) : need p K := ⟨hp, hk⟩
theorem split_true {X Y : Prop} (h : X) : split true X Y := ⟨fun _ => h, fun h => by cases h⟩
theorem split_false {X Y : Prop} (h : Y) : split false X Y := ⟨(fun h => by cases h), fun _ => h⟩
theorem split_of {b : Bool} {X Y : Prop} (h1 : b = true → X) (h2 : b = false → Y) : split b X Y := ⟨h1, h2⟩
theorem split_pos {b : Bool} {X Y : Prop} (hb : b = true) (h : X) : split b X Y := by subst hb; exact split_true h
theorem split_neg {b : Bool} {X Y : Prop} (hb : b = false) (h : Y) : split b X Y := by subst hb; exact split_false h

/-- A loop, by an invariant and a measure. -/
theorem loop_of {σ : Type} {step : (σ → H → Prop) → σ → H → Prop} {s : σ} {h : H} (I : σ → H → Prop) (μ : σ → H → Nat) (h0 : I s h)
    (hr : ∀ s h, I s h → step (fun s' h' => I s' h' ∧ μ s' h' < μ s h) s h) : loopT step s h := ⟨I, μ, h0, hr⟩

@[simp] theorem cell_new (h : H) (t : TypeId) (vs : List Value) (o : Nat) : cell (h.push (.cells ⟨vs⟩ t)) ⟨h.size, o, none⟩ = vs[o]? := (Blk.new h t vs).cell o

/-- The steps that a simp takes on loads whose cells are known. -/
theorem ldI_def {h : H} {a : Addr} {k : IntKind} {K : Int → Prop} {v : Value} (hc : cell h a = some v) : ldI h a k K = ∃ n, v = .int k n ∧ K n := by simp [ldI, hc]

/-! ### Numbers -/

theorem wrap64_id {x : Int} (h1 : -9223372036854775808 ≤ x) (h2 : x < 9223372036854775808) : IntKind.wrap .i64 x = x := by
  simp only [IntKind.wrap, IntKind.bits, IntKind.signed]
  simp
  omega
theorem wrapu64_id {x : Int} (h1 : 0 ≤ x) (h2 : x < 18446744073709551616) : IntKind.wrap .u64 x = x := by
  simp only [IntKind.wrap, IntKind.bits, IntKind.signed]
  simp
  omega

theorem bitsI_and {a b : Nat} (ha : a < 2 ^ 64) (hb : b < 2 ^ 64) : bitsI .and .u64 a b = ((a &&& b : Nat) : Int) := by
  have h1 : (BitVec.ofInt 64 (a : Int) &&& BitVec.ofInt 64 (b : Int)).toNat = a &&& b := by
    simp
    have e1 : a % 18446744073709551616 = a := by omega
    have e2 : b % 18446744073709551616 = b := by omega
    rw [e1, e2]
  have h2 : a &&& b < 2 ^ 64 := Nat.and_lt_two_pow _ hb
  show IntKind.wrap .u64 ((BitVec.ofInt 64 (a : Int) &&& BitVec.ofInt 64 (b : Int)).toNat) = _
  rw [h1, wrapu64_id (by omega) (by omega)]
theorem bitsI_or {a b : Nat} (ha : a < 2 ^ 64) (hb : b < 2 ^ 64) : bitsI .or .u64 a b = ((a ||| b : Nat) : Int) := by
  have h1 : (BitVec.ofInt 64 (a : Int) ||| BitVec.ofInt 64 (b : Int)).toNat = a ||| b := by
    simp
    have e1 : a % 18446744073709551616 = a := by omega
    have e2 : b % 18446744073709551616 = b := by omega
    rw [e1, e2]
  have h2 : a ||| b < 2 ^ 64 := Nat.or_lt_two_pow ha hb
  show IntKind.wrap .u64 ((BitVec.ofInt 64 (a : Int) ||| BitVec.ofInt 64 (b : Int)).toNat) = _
  rw [h1, wrapu64_id (by omega) (by omega)]
theorem shl_one {n : Nat} (h : n < 64) : shlI .u64 1 n = ((2 ^ n : Nat) : Int) := by
  have h2 : (2 : Nat) ^ n < 2 ^ 64 := Nat.pow_lt_pow_right (by omega) h
  unfold shlI
  have e : min (n : Int).toNat (IntKind.bits .u64) = n := by simp [IntKind.bits]; omega
  rw [e, Int.one_mul]
  have e3 : ((2 : Int) ^ n) = ((2 ^ n : Nat) : Int) := by simp
  rw [e3]
  generalize (2 : Nat) ^ n = m at h2
  rw [wrapu64_id (by omega) (by omega)]
theorem shr_nat {a n : Nat} (h : n < 64) : shrI .u64 a n = ((a >>> n : Nat) : Int) := by
  unfold shrI
  have e : min (n : Int).toNat (IntKind.bits .u64) = n := by simp [IntKind.bits]; omega
  rw [e, Int.fdiv_eq_ediv_of_nonneg _ (by exact Int.pow_nonneg (by omega)), Nat.shiftRight_eq_div_pow]
  simp

end Go.GL

namespace Go.GL

theorem bitsI_andNot {a b : Nat} (ha : a < 2 ^ 64) (hb : b < 2 ^ 64) : bitsI .andNot .u64 a b = ((a ^^^ (a &&& b) : Nat) : Int) := by
  have h0 : BitVec.ofInt 64 (a : Int) = BitVec.ofNat 64 a := by simp
  have h0' : BitVec.ofInt 64 (b : Int) = BitVec.ofNat 64 b := by simp
  have h1 : (BitVec.ofInt 64 (a : Int) &&& ~~~ BitVec.ofInt 64 (b : Int)).toNat = a ^^^ (a &&& b) := by
    rw [h0, h0']
    apply Nat.eq_of_testBit_eq
    intro i
    rw [Nat.testBit_xor, Nat.testBit_and, BitVec.toNat_and, Nat.testBit_and, ← BitVec.getLsbD, BitVec.getLsbD_ofNat, ← BitVec.getLsbD, BitVec.getLsbD_not, BitVec.getLsbD_ofNat]
    by_cases hi : i < 64
    · simp [hi]
      cases a.testBit i <;> cases b.testBit i <;> rfl
    · have : a.testBit i = false := Nat.testBit_lt_two_pow (Nat.lt_of_lt_of_le ha (Nat.pow_le_pow_right (by omega) (by omega)))
      simp [hi, this]
  have h2 : a ^^^ (a &&& b) < 2 ^ 64 := Nat.xor_lt_two_pow ha (Nat.and_lt_two_pow _ hb)
  show IntKind.wrap .u64 ((BitVec.ofInt 64 (a : Int) &&& ~~~ BitVec.ofInt 64 (b : Int)).toNat) = _
  rw [h1, wrapu64_id (by omega) (by omega)]

theorem bitsI_xor {a b : Nat} (ha : a < 2 ^ 64) (hb : b < 2 ^ 64) : bitsI .xor .u64 a b = ((a ^^^ b : Nat) : Int) := by
  have h1 : (BitVec.ofInt 64 (a : Int) ^^^ BitVec.ofInt 64 (b : Int)).toNat = a ^^^ b := by
    simp
    have e1 : a % 18446744073709551616 = a := by omega
    have e2 : b % 18446744073709551616 = b := by omega
    rw [e1, e2]
  have h2 : a ^^^ b < 2 ^ 64 := Nat.xor_lt_two_pow ha hb
  show IntKind.wrap .u64 ((BitVec.ofInt 64 (a : Int) ^^^ BitVec.ofInt 64 (b : Int)).toNat) = _
  rw [h1, wrapu64_id (by omega) (by omega)]

theorem shl_nat {a n : Nat} (h : n < 64) (ha : a * 2 ^ n < 2 ^ 64) : shlI .u64 a n = ((a * 2 ^ n : Nat) : Int) := by
  unfold shlI
  have e : min (n : Int).toNat (IntKind.bits .u64) = n := by simp [IntKind.bits]; omega
  rw [e]
  have e3 : ((a : Int) * (2 : Int) ^ n) = ((a * 2 ^ n : Nat) : Int) := by simp
  rw [e3]
  generalize a * 2 ^ n = m at ha
  rw [wrapu64_id (by omega) (by omega)]

/-- A low part and a high part have no bit in common. -/
theorem and_high {a b n : Nat} (h : a < 2 ^ n) : a &&& (b * 2 ^ n) = 0 := by
  apply Nat.eq_of_testBit_eq
  intro i
  rw [Nat.testBit_and, Nat.zero_testBit]
  by_cases hi : i < n
  · have : (b * 2 ^ n).testBit i = false := by
      rw [Nat.mul_comm, Nat.testBit_two_pow_mul]
      simp; omega
    simp [this]
  · have : a.testBit i = false := Nat.testBit_lt_two_pow (Nat.lt_of_lt_of_le h (Nat.pow_le_pow_right (by omega) (by omega)))
    simp [this]

theorem or_high {a b n : Nat} (h : a < 2 ^ n) : a ||| (b * 2 ^ n) = a + b * 2 ^ n := by
  rw [Nat.mul_comm b, Nat.or_comm, Nat.add_comm]
  exact (Nat.two_pow_add_eq_or_of_lt h b).symm

theorem and_mask (a n : Nat) : a &&& (2 ^ n - 1) = a % 2 ^ n := Nat.and_two_pow_sub_one_eq_mod a n

end Go.GL

namespace Go.GL

/-- k is the least place whose bit is 0. -/
def IsFirst (w k : Nat) : Prop := w.testBit k = false ∧ ∀ j, j < k → w.testBit j = true

theorem IsFirst.unique {w k k' : Nat} (h : IsFirst w k) (h' : IsFirst w k') : k = k' := by
  rcases Nat.lt_trichotomy k k' with hl | hl | hl
  · have := h'.2 k hl; rw [h.1] at this; cases this
  · exact hl
  · have := h.2 k' hl; rw [h'.1] at this; cases this

theorem exists_first (w : Nat) : ∃ k, IsFirst w k := by
  have : ∃ k, w.testBit k = false := ⟨w, Nat.testBit_lt_two_pow Nat.lt_two_pow_self⟩
  obtain ⟨k, hk⟩ := this
  induction k using Nat.strongRecOn with
  | _ k ih =>
    by_cases h : ∃ j, j < k ∧ w.testBit j = false
    · obtain ⟨j, hj, hb⟩ := h
      exact ih j hj hb
    · refine ⟨k, hk, fun j hj => ?_⟩
      cases hb : w.testBit j with
      | true => rfl
      | false => exact absurd ⟨j, hj, hb⟩ h

/-- x and its negative, of 64 bits: the least bit that is 1. -/
theorem and_neg {x k : Nat} (hx : x < 2 ^ 64) (hk : x.testBit k = true) (hl : ∀ j, j < k → x.testBit j = false) : x &&& (2 ^ 64 - x) = 2 ^ k := by
  have h0 : x ≠ 0 := by rintro rfl; simp at hk
  have hk64 : k < 64 := by
    rcases Nat.lt_or_ge k 64 with h | h
    · exact h
    · have := Nat.testBit_lt_two_pow (Nat.lt_of_lt_of_le hx (Nat.pow_le_pow_right (by omega) h))
      rw [this] at hk; cases hk
  -- 2^64 - x = 2^64 - ((x-1) + 1): the bits of x-1, turned
  have hy : ∀ i, (2 ^ 64 - x).testBit i = (decide (i < 64) && !(x - 1).testBit i) := by
    intro i
    have : 2 ^ 64 - x = 2 ^ 64 - ((x - 1) + 1) := by omega
    rw [this]
    exact Nat.testBit_two_pow_sub_succ (by omega) i
  -- x - 1: zeros below become ones, the least one becomes zero
  have hsub : ∀ i, (x - 1).testBit i = if i < k then true else if i = k then false else x.testBit i := by
    -- x = 2^k * (2*m + 1)
    have hmod : x % 2 ^ k = 0 := by
      apply Nat.eq_of_testBit_eq
      intro i
      rw [Nat.testBit_mod_two_pow, Nat.zero_testBit]
      by_cases hi : i < k
      · simp [hl i hi]
      · simp [hi]
    obtain ⟨q, hq⟩ : ∃ q, x = 2 ^ k * q := ⟨x / 2 ^ k, by have := Nat.div_add_mod x (2 ^ k); omega⟩
    have hodd : q % 2 = 1 := by
      have : x.testBit k = q.testBit 0 := by rw [hq, Nat.testBit_two_pow_mul]; simp
      rw [hk] at this
      simpa [Nat.testBit_zero] using this.symm
    obtain ⟨m, rfl⟩ : ∃ m, q = 2 * m + 1 := ⟨q / 2, by omega⟩
    have hp : 0 < (2 : Nat) ^ k := Nat.pow_pos (by omega)
    have hx1 : x - 1 = 2 ^ k * (2 * m) + (2 ^ k - 1) := by rw [hq, Nat.mul_add]; omega
    intro i
    rw [hx1, Nat.testBit_two_pow_mul_add _ (by omega)]
    by_cases hi : i < k
    · rw [if_pos hi, if_pos hi, Nat.testBit_two_pow_sub_one]; simpa using hi
    · rw [if_neg hi, if_neg hi]
      by_cases hik : i = k
      · subst hik; simp [Nat.testBit_zero]
      · rw [if_neg hik, hq, Nat.testBit_two_pow_mul]
        have e : i - k = (i - k - 1) + 1 := by omega
        have h1 : (2 * m).testBit (i - k) = m.testBit (i - k - 1) := by rw [e, Nat.testBit_succ]; congr 1; omega
        have h2 : (2 * m + 1).testBit (i - k) = m.testBit (i - k - 1) := by rw [e, Nat.testBit_succ]; congr 1; omega
        rw [h1, h2]
        simp; omega
  apply Nat.eq_of_testBit_eq
  intro i
  rw [Nat.testBit_and, hy, hsub, Nat.testBit_two_pow]
  by_cases hi : i < k
  · rw [if_pos hi, hl i hi]; simp; omega
  · rw [if_neg hi]
    by_cases hik : i = k
    · subst hik; simp [hk, hk64]
    · rw [if_neg hik]
      have : ¬ k = i := fun h => hik h.symm
      cases x.testBit i <;> simp [this]

/-- The table. -/
def deB : List Nat := [0, 1, 56, 2, 57, 49, 28, 3, 61, 58, 42, 50, 38, 29, 17, 4, 62, 47, 59, 36, 45, 43, 51, 22, 53, 39, 33, 30, 24, 18, 12, 5, 63, 55, 48, 27, 60, 41, 37, 16, 46, 35, 44, 21, 52, 32, 23, 11, 54, 26, 40, 15, 34, 20, 31, 10, 25, 14, 19, 9, 13, 8, 7, 6]

theorem deB_at : ∀ k : Fin 64, deB[(2 ^ k.val * 285870213051353865 % 2 ^ 64) / 2 ^ 58]? = some k.val := by decide +kernel

/-- The table lies where it was laid. -/
def Tab (h : H) : Prop := 0 < h.size ∧ ∀ i v, deB[i]? = some v → cell h ⟨0, i, none⟩ = some (.int .u8 (v : Nat))

theorem Tab.fr {S : Nat → Prop} {h h' : H} (hf : Fr S h h') (ht : Tab h) (hn : ¬ S 0) : Tab h' := by
  refine ⟨Nat.lt_of_lt_of_le ht.1 hf.1, fun i v hv => ?_⟩
  have h1 := ht.2 i v hv
  have h2 := hf.2 0 ht.1 hn
  unfold cell at h1 ⊢
  rw [show h'[(⟨0, i, none⟩ : Addr).block]? = h'[0]? from rfl, h2]
  exact h1

end Go.GL

namespace Go.GLM
open Go Go.GL

/-- A slice of so many elements, each of size cells, the row its own from the first on; the block not below base. -/
def OwnL (h : H) (base : Nat) (e : TypeId) (size : Nat) (p : Option Addr) (n c : Nat) (xs : List Value) : Prop :=
  xs.length = n * size ∧
  ((p = none ∧ c = 0 ∧ n = 0) ∨
   ∃ g cur, p = some ⟨g, 0, none⟩ ∧ base ≤ g ∧ h[g]? = some (.cells cur e (0, 0)) ∧ n ≤ c ∧ c ≤ maxLen ∧ cur.size = c * size ∧ cur.toList.take (n * size) = xs)

theorem OwnL.nil (h : H) (base : Nat) (e : TypeId) (size : Nat) : OwnL h base e size none 0 0 [] := ⟨by simp, .inl ⟨rfl, rfl, rfl⟩⟩

theorem OwnL.to {w : World} {base : Nat} {e : TypeId} {size : Nat} {p : Option Addr} {n c : Nat} {xs : List Value} (h : OwnL w.heap base e size p n c xs) : w.ownsRow base e size (.slice p n c) n xs := by
  refine ⟨h.1, ?_⟩
  rcases h.2 with ⟨rfl, rfl, rfl⟩ | ⟨g, cur, rfl, h1, h2, h3, h4, h5, h6⟩
  · exact .inl ⟨rfl, rfl⟩
  · exact .inr ⟨g, c, cur, rfl, h1, h2, h3, h4, h5, h6⟩

theorem OwnL.from {w : World} {base : Nat} {e : TypeId} {size : Nat} {v : Value} {n : Nat} {xs : List Value} (h : w.ownsRow base e size v n xs) : ∃ p c, v = .slice p n c ∧ OwnL w.heap base e size p n c xs := by
  rcases h.2 with ⟨rfl, rfl⟩ | ⟨g, cap, cur, rfl, h1, h2, h3, h4, h5, h6⟩
  · exact ⟨none, 0, rfl, h.1, .inl ⟨rfl, rfl, rfl⟩⟩
  · exact ⟨some ⟨g, 0, none⟩, cap, rfl, h.1, .inr ⟨g, cur, rfl, h1, h2, h3, h4, h5, h6⟩⟩

/-- The row's own block. -/
def blkOf (p : Option Addr) : Nat → Prop := fun b => ∃ a, p = some a ∧ b = a.block

theorem OwnL.fr {S : Nat → Prop} {h h' : H} {base : Nat} {e : TypeId} {size : Nat} {p : Option Addr} {n c : Nat} {xs : List Value} (ho : OwnL h base e size p n c xs) (hf : Fr S h h') (hn : ∀ b, blkOf p b → ¬ S b) :
    OwnL h' base e size p n c xs := by
  refine ⟨ho.1, ?_⟩
  rcases ho.2 with h1 | ⟨g, cur, rfl, h1, h2, h3⟩
  · exact .inl h1
  · exact .inr ⟨g, cur, rfl, h1, by rw [hf.2 g (Array.getElem?_eq_some_iff.1 h2).1 (hn g ⟨_, rfl, rfl⟩)]; exact h2, h3⟩

theorem OwnL.cell {h : H} {base : Nat} {e : TypeId} {size : Nat} {g : Nat} {n c : Nat} {xs : List Value} (ho : OwnL h base e size (some ⟨g, 0, none⟩) n c xs) {o : Nat} (hlt : o < n * size) : Go.GL.cell h ⟨g, o, none⟩ = xs[o]? := by
  rcases ho.2 with ⟨h0, _⟩ | ⟨g', cur, he, h1, h2, h3, h4, h5, h6⟩
  · exact absurd h0 (by simp)
  · simp only [Option.some.injEq, Addr.mk.injEq, and_true] at he
    subst he
    unfold Go.GL.cell
    rw [show h[(⟨g, o, none⟩ : Addr).block]? = h[g]? from rfl, h2]
    simp only [Option.isSome_none, Bool.false_eq_true, if_false]
    rw [← h6, List.getElem?_take_of_lt hlt]
    simp

theorem append_of {P : Program} {t e : TypeId} {z : Value} {size bytes : Nat} (ht : P.underlying t = some (.slice e)) (hi : (P.info? e).map (fun i => (i.zero, i.size, i.bytes)) = some (some z, size, bytes))
    (hzs : z.cells.size = size) (hsz : 0 < size) {h : H} {base : Nat} {p : Option Addr} {n c : Nat} {xs : List Value} (ho : OwnL h base e size p n c xs) (hbase : base ≤ h.size)
    {a : Addr} {m k : Nat} {news : List Value} (hl : news.length = m * size) (hnews : ∀ j u, news[j]? = some u → Go.GL.cell h (a.add j) = some u) (h1 : ∀ u ∈ news, u.oneCell' = true)
    (h63 : n + m ≤ maxLen) (hbytes : (n + m) * bytes ≤ 140737488355328) {ty : TypeId} {cs : Array Bool} {K : Value → H → Prop}
    (hk : ∀ p' c' h', OwnL h' base e size p' (n + m) c' (xs ++ news) → Fr (blkOf p) h h' → K (.slice p' (n + m) c') h') :
    rawN P (builtin .append #[t, t] ty cs #[.slice p n c, .slice (some a) m k]) h K := by
  obtain ⟨i, hi', hzz⟩ := Option.map_eq_some_iff.1 hi
  simp only [Prod.mk.injEq] at hzz
  obtain ⟨hz, hs, hb⟩ := hzz
  intro w hw
  subst hw
  obtain ⟨v', w', hr, h2, h3, h4⟩ := run_append_own (P := P) w base t ty e i z size bytes ht hi' hz hs hb hzs hsz _ n xs ho.to a m k news hl hnews h1 h63 hbytes hbase
  simp only [builtin, Sem.run_bind, Sem.run_pure, Result.andThen_ok, hr]
  obtain ⟨p', c', rfl, ho'⟩ := OwnL.from h2
  refine ⟨⟨h3.tape, h3.os, h3.output⟩, hk p' c' _ ho' ⟨h3.size, fun b hb hn => h3.block b hb ?_⟩⟩
  intro heq
  cases p with
  | none => simp [Value.ownBlock] at heq
  | some ad => simp [Value.ownBlock] at heq; exact hn ⟨ad, rfl, heq⟩

theorem make_of {P : Program} {t e : TypeId} {z : Value} {size bytes : Nat} (ht : P.underlying t = some (.slice e)) (hi : (P.info? e).map (fun i => (i.zero, i.size, i.bytes)) = some (some z, size, bytes))
    {h : H} {n : Int} (h0 : 0 ≤ n) (hb : (bytes : Int) * n ≤ 281474976710656) (hn : n ≤ 9223372036854775807) {K : Value → H → Prop}
    (hk : K (.slice (some ⟨h.size, 0, none⟩) n.toNat n.toNat) (h.push (.cells (madeCells z.cells (n.toNat * size)) e))) :
    rawV P (Instr.makeSlice t (.int .i64 n) (.int .i64 n)) h K := by
  obtain ⟨i, hi', hzz⟩ := Option.map_eq_some_iff.1 hi
  simp only [Prod.mk.injEq] at hzz
  obtain ⟨hz, hs, hbb⟩ := hzz
  subst hs; subst hbb
  intro w hw
  subst hw
  have hr := run_make (P := P) w t e i z ht hi' hz .i64 .i64 n n h0 (Int.le_refl _) hb hn
  rw [hr]
  exact ⟨Same.refl _, hk⟩

end Go.GLM

namespace Go.GLM
open Go Go.GL

theorem zeroCells_one (z : Value) (n : Nat) : (Builtin.zeroCells #[z] n).toList = List.replicate n z := by
  simp [Builtin.zeroCells]
  apply List.ext_getElem
  · simp
  · intro i h1 h2
    simp [Nat.mod_one]

theorem clear_of {P : Program} {t e : TypeId} {z : Value} (ht : P.underlying t = some (.slice e)) (hv : ∀ w, (zeroValue e).run P w = .ok z w) (hz : z.cells = #[z]) (h1 : z.oneCell' = true)
    {h : H} {b o n c : Nat} {vs : List Value} (hb : Blk h b e vs) (hfit : o + n ≤ vs.length) (hn : 0 < n) {ty : TypeId} {cs : Array Bool} {K : Value → H → Prop}
    (hk : ∀ h', Fr (· = b) h h' → Blk h' b e (vs.take o ++ List.replicate n z ++ vs.drop (o + n)) → K (.tuple #[]) h') :
    rawN P (builtin .clear #[t] ty cs #[.slice (some ⟨b, o, none⟩) n c]) h K := by
  intro w hw
  subst hw
  have hst := run_storeCells_at P b o e (List.replicate n z) 0 ⟨vs⟩ w hb (by simpa using hfit) (by intro v hv'; rw [List.eq_of_mem_replicate hv']; exact h1)
  simp only [Nat.add_zero, List.length_replicate] at hst
  obtain ⟨m, rfl⟩ : ∃ m, n = m + 1 := ⟨n - 1, by omega⟩
  have hrun : (Builtin.clear_ #[t] ty #[.slice (some ⟨b, o, none⟩) (m + 1) c]).run P w = .ok (.tuple #[]) (w.setRow b (vs.take o ++ List.replicate (m + 1) z ++ vs.drop (o + (m + 1))).toArray) := by
    simp [Builtin.clear_, run_underlying ht, hv, hz, zeroCells_one, hst]
  simp only [builtin, Sem.run_bind, Sem.run_pure, Result.andThen_ok, hrun]
  refine ⟨⟨rfl, rfl, rfl⟩, hk _ ⟨?_, fun x hx hne => setRow_other w b x _ hne⟩ ?_⟩
  · simp [World.setRow]
  · exact setRow_heap w b ⟨vs⟩ _ e _ hb

end Go.GLM

namespace Go.GLM
open Go Go.GL

/-- A slice of so many elements in a row, from some place of its on; from there to the slice's end of room the row is the slice's own. -/
def OwnO (h : H) (base : Nat) (e : TypeId) (size : Nat) (p : Option Addr) (n c : Nat) (xs : List Value) : Prop :=
  xs.length = n * size ∧
  ((p = none ∧ c = 0 ∧ n = 0) ∨
   ∃ g o cur, p = some ⟨g, o, none⟩ ∧ base ≤ g ∧ h[g]? = some (.cells cur e (0, 0)) ∧ n ≤ c ∧ c ≤ maxLen ∧ o + c * size ≤ cur.size ∧ (cur.toList.drop o).take (n * size) = xs)

theorem OwnO.nil (h : H) (base : Nat) (e : TypeId) (size : Nat) : OwnO h base e size none 0 0 [] := ⟨by simp, .inl ⟨rfl, rfl, rfl⟩⟩

theorem OwnL.o {h : H} {base : Nat} {e : TypeId} {size : Nat} {p : Option Addr} {n c : Nat} {xs : List Value} (ho : OwnL h base e size p n c xs) : OwnO h base e size p n c xs := by
  refine ⟨ho.1, ?_⟩
  rcases ho.2 with h1 | ⟨g, cur, rfl, h1, h2, h3, h4, h5, h6⟩
  · exact .inl h1
  · exact .inr ⟨g, 0, cur, rfl, h1, h2, h3, h4, by omega, by rw [List.drop_zero]; exact h6⟩

theorem OwnO.fr {S : Nat → Prop} {h h' : H} {base : Nat} {e : TypeId} {size : Nat} {p : Option Addr} {n c : Nat} {xs : List Value} (ho : OwnO h base e size p n c xs) (hf : Fr S h h') (hn : ∀ b, blkOf p b → ¬ S b) :
    OwnO h' base e size p n c xs := by
  refine ⟨ho.1, ?_⟩
  rcases ho.2 with h1 | ⟨g, o, cur, rfl, h1, h2, h3⟩
  · exact .inl h1
  · exact .inr ⟨g, o, cur, rfl, h1, by rw [hf.2 g (Array.getElem?_eq_some_iff.1 h2).1 (hn g ⟨_, rfl, rfl⟩)]; exact h2, h3⟩

theorem OwnO.cell {h : H} {base : Nat} {e : TypeId} {size : Nat} {g o : Nat} {n c : Nat} {xs : List Value} (ho : OwnO h base e size (some ⟨g, o, none⟩) n c xs) {j : Nat} (hlt : j < n * size) : Go.GL.cell h ⟨g, o + j, none⟩ = xs[j]? := by
  rcases ho.2 with ⟨h0, _⟩ | ⟨g', o', cur, he, h1, h2, h3, h4, h5, h6⟩
  · exact absurd h0 (by simp)
  · simp only [Option.some.injEq, Addr.mk.injEq, and_true] at he
    obtain ⟨rfl, rfl⟩ := he
    unfold Go.GL.cell
    rw [show h[(⟨g, o + j, none⟩ : Addr).block]? = h[g]? from rfl, h2]
    simp only [Option.isSome_none, Bool.false_eq_true, if_false]
    rw [← h6, List.getElem?_take_of_lt hlt, List.getElem?_drop]
    simp

/-- The slice without its first element. -/
theorem OwnO.tail {h : H} {base : Nat} {e : TypeId} {g o : Nat} {n c : Nat} {x : Value} {xs : List Value} (ho : OwnO h base e 1 (some ⟨g, o, none⟩) (n + 1) c (x :: xs)) :
    OwnO h base e 1 (some ⟨g, o + 1, none⟩) n (c - 1) xs := by
  rcases ho.2 with ⟨h0, _⟩ | ⟨g', o', cur, he, h1, h2, h3, h4, h5, h6⟩
  · exact absurd h0 (by simp)
  · simp only [Option.some.injEq, Addr.mk.injEq, and_true] at he
    obtain ⟨rfl, rfl⟩ := he
    have hl := ho.1
    simp only [List.length_cons, Nat.mul_one] at hl
    refine ⟨by omega, .inr ⟨g, o + 1, cur, rfl, h1, h2, by omega, by omega, by omega, ?_⟩⟩
    have : cur.toList.drop o = cur.toList[o]'(by simp; omega) :: cur.toList.drop (o + 1) := (List.drop_eq_getElem_cons (by simp; omega))
    rw [this, Nat.mul_one, List.take_succ_cons, List.cons.injEq] at h6
    rw [Nat.mul_one]
    exact h6.2

theorem OwnL.mono {h : H} {base base' : Nat} {e : TypeId} {size : Nat} {p : Option Addr} {n c : Nat} {xs : List Value} (ho : OwnL h base e size p n c xs) (hb : base' ≤ base) : OwnL h base' e size p n c xs := by
  refine ⟨ho.1, ?_⟩
  rcases ho.2 with h1 | ⟨g, cur, rfl, h1, h2⟩
  · exact .inl h1
  · exact .inr ⟨g, cur, rfl, Nat.le_trans hb h1, h2⟩

theorem OwnL.blk {h : H} {base e size : Nat} {p : Option Addr} {n c : Nat} {xs : List Value} (ho : OwnL h base e size p n c xs) {b : Nat} (hb : blkOf p b) : base ≤ b ∧ b < h.size ∧ ∃ cur, h[b]? = some (.cells cur e (0, 0)) := by
  obtain ⟨a, rfl, rfl⟩ := hb
  rcases ho.2 with ⟨h0, _⟩ | ⟨g, cur, he, h1, h2, _⟩
  · cases h0
  · cases he; exact ⟨h1, (Array.getElem?_eq_some_iff.1 h2).1, cur, h2⟩

theorem OwnO.blk {h : H} {base e size : Nat} {p : Option Addr} {n c : Nat} {xs : List Value} (ho : OwnO h base e size p n c xs) {b : Nat} (hb : blkOf p b) : base ≤ b ∧ b < h.size ∧ ∃ cur, h[b]? = some (.cells cur e (0, 0)) := by
  obtain ⟨a, rfl, rfl⟩ := hb
  rcases ho.2 with ⟨h0, _⟩ | ⟨g, o, cur, he, h1, h2, _⟩
  · cases h0
  · cases he; exact ⟨h1, (Array.getElem?_eq_some_iff.1 h2).1, cur, h2⟩

theorem appendQ_of {P : Program} {t e : TypeId} {z : Value} {size bytes : Nat} (ht : P.underlying t = some (.slice e)) (hi : (P.info? e).map (fun i => (i.zero, i.size, i.bytes)) = some (some z, size, bytes))
    (hzs : z.cells.size = size) (hsz : 0 < size) {h : H} {base : Nat} {p : Option Addr} {n c : Nat} {xs : List Value} (ho : OwnO h base e size p n c xs) (hbase : base ≤ h.size)
    {a : Addr} {m k : Nat} {news : List Value} (hl : news.length = m * size) (hnews : ∀ j u, news[j]? = some u → Go.GL.cell h (a.add j) = some u) (h1 : ∀ u ∈ news, u.oneCell' = true)
    (h63 : n + m ≤ maxLen) (hbytes : (n + m) * bytes ≤ 140737488355328) {ty : TypeId} {cs : Array Bool} {K : Value → H → Prop}
    (hk : ∀ p' c' h', OwnO h' base e size p' (n + m) c' (xs ++ news) → Fr (blkOf p) h h' → (∀ b, blkOf p' b → blkOf p b ∨ h.size ≤ b) → K (.slice p' (n + m) c') h') :
    rawN P (builtin .append #[t, t] ty cs #[.slice p n c, .slice (some a) m k]) h K := by
  rcases ho.2 with ⟨rfl, rfl, rfl⟩ | ⟨g, o, cur, rfl, hbg, hg, hnc, hcm, hcs, htake⟩
  · have hx : xs = [] := List.eq_nil_of_length_eq_zero (by simpa using ho.1)
    subst hx
    exact append_of ht hi hzs hsz (OwnL.nil h h.size e size) (Nat.le_refl _) hl hnews h1 h63 hbytes fun p' c' h' ho' hf => hk p' c' h' (ho'.mono hbase).o hf fun b hb => .inr (ho'.blk hb).1
  · obtain ⟨i, hi', hzz⟩ := Option.map_eq_some_iff.1 hi
    simp only [Prod.mk.injEq] at hzz
    obtain ⟨hz, hs, hb⟩ := hzz
    subst hs; subst hb
    intro w hw
    subst hw
    have hadd : ∀ j, (⟨g, o, none⟩ : Addr).add j = ⟨g, o + j, none⟩ := fun j => add_mk ..
    have hlen : (xs ++ news).length = (n + m) * i.size := by rw [List.length_append, ho.1, hl, Nat.add_mul]
    by_cases hroom : n + m ≤ c
    · have hmul : n * i.size + m * i.size ≤ c * i.size := by rw [← Nat.add_mul]; exact Nat.mul_le_mul_right _ hroom
      have hf := run_firstCells_some (P := P) w i.size m a m k news hl hnews
      have hst := run_storeCells_at P g (o + n * i.size) e news 0 cur w hg (by omega) h1
      simp only [Nat.add_zero] at hst
      have hrun : (Builtin.append_ #[t, t] ty #[.slice (some ⟨g, o, none⟩) n c, .slice (some a) m k]).run P w =
          .ok (.slice (some ⟨g, o, none⟩) (n + m) c) (w.setRow g (cur.toList.take (o + n * i.size) ++ news ++ cur.toList.drop (o + n * i.size + news.length)).toArray) := by
        simp [Builtin.append_, run_underlying ht, sizeOf, typeInfo, hi', Builtin.lenOf, hroom, hf, hadd, hst]
      simp only [builtin, Sem.run_bind, Sem.run_pure, Result.andThen_ok, hrun]
      refine ⟨⟨rfl, rfl, rfl⟩, hk _ c _ ⟨hlen, .inr ⟨g, o, _, rfl, hbg, setRow_heap w g cur _ e _ hg, hroom, hcm, ?_, ?_⟩⟩ ⟨by simp [World.setRow], fun x hx hn => setRow_other w g x _ fun e => hn ⟨_, rfl, e⟩⟩ fun b hb => .inl hb⟩
      · simp only [List.size_toArray, List.length_append, List.length_take, List.length_drop, Array.length_toList]
        omega
      · have e1 : (cur.toList.take (o + n * i.size)).drop o = xs := by
          rw [List.drop_take, Nat.add_sub_cancel_left]; exact htake
        have hlt : (cur.toList.take (o + n * i.size)).length = o + n * i.size := by rw [List.length_take, Array.length_toList]; omega
        rw [List.append_assoc, List.drop_append_of_le_length (by omega), e1, ← List.append_assoc, ← hlen]
        exact List.take_left
    · have holds : ∀ j u, xs[j]? = some u → w.cell? ((⟨g, o, none⟩ : Addr).add j) = some u := fun j u hu => by
        have hj : j < n * i.size := by
          rw [← ho.1]; exact (List.getElem?_eq_some_iff.1 hu).1
        have := ho.cell hj
        rw [hu] at this
        rw [hadd]
        exact this
      have hr := run_append_grow (P := P) w t ty e i z ht hi' hz ⟨g, o, none⟩ n c xs ho.1 holds a m k news hl hnews (by omega) (by simp only [maxLen] at h63; omega) (growslice_fits (by omega) hbytes)
      simp only [builtin, Sem.run_bind, Sem.run_pure, Result.andThen_ok, hr]
      have hge := grownCap_ge w (n + m) c e
      have hcm' : grownCap w (n + m) c e ≤ maxLen := grownCap_le_maxLen w (n + m) c e h63
      refine ⟨⟨rfl, rfl, rfl⟩, hk _ _ _ ⟨hlen, .inr ⟨w.heap.size, 0, _, rfl, hbase, heap_alloc_new w.drew _, hge, hcm', ?_, ?_⟩⟩ ⟨by simp, fun x hx hn => heap_alloc_old w.drew _ x hx⟩ fun b hb => .inr ?_⟩
      · simp only [Array.size_append, List.size_toArray, size_zeroCells, hzs, ho.1, hl, ← Nat.add_mul]
        rw [Nat.zero_add]
        refine Nat.le_of_eq ?_
        congr 1
        omega
      · rw [List.drop_zero]
        simp only [Array.toList_append, List.append_assoc]
        rw [← List.append_assoc, ← hlen]
        exact List.take_left
      · obtain ⟨a', ha', rfl⟩ := hb
        cases ha'
        exact Nat.le_refl _

theorem appendO_of {P : Program} {t e : TypeId} {z : Value} {size bytes : Nat} (ht : P.underlying t = some (.slice e)) (hi : (P.info? e).map (fun i => (i.zero, i.size, i.bytes)) = some (some z, size, bytes))
    (hzs : z.cells.size = size) (hsz : 0 < size) {h : H} {base : Nat} {p : Option Addr} {n c : Nat} {xs : List Value} (ho : OwnO h base e size p n c xs) (hbase : base ≤ h.size)
    {a : Addr} {m k : Nat} {news : List Value} (hl : news.length = m * size) (hnews : ∀ j u, news[j]? = some u → Go.GL.cell h (a.add j) = some u) (h1 : ∀ u ∈ news, u.oneCell' = true)
    (h63 : n + m ≤ maxLen) (hbytes : (n + m) * bytes ≤ 140737488355328) {ty : TypeId} {cs : Array Bool} {K : Value → H → Prop}
    (hk : ∀ p' c' h', OwnO h' base e size p' (n + m) c' (xs ++ news) → Fr (blkOf p) h h' → K (.slice p' (n + m) c') h') :
    rawN P (builtin .append #[t, t] ty cs #[.slice p n c, .slice (some a) m k]) h K :=
  appendQ_of ht hi hzs hsz ho hbase hl hnews h1 h63 hbytes fun p' c' h' ho' hf _ => hk p' c' h' ho' hf

end Go.GLM

namespace Go.GLM
open Go Go.GL

/-- What is said of the blocks in d, and of no other. -/
structure Asrt where
  sat : H → (Nat → Prop) → Prop
  loc : ∀ {h h' : H} {d : Nat → Prop}, sat h d → h.size ≤ h'.size → (∀ b, d b → h'[b]? = h[b]?) → sat h' d
  bnd : ∀ {h : H} {d : Nat → Prop}, sat h d → ∀ b, d b → b < h.size

/-- The parts hold side by side: no block belongs to two of them. -/
def Sat (h : H) (Γ : List Asrt) : Prop :=
  ∃ D : Nat → Nat → Prop, (∀ i j b, D i b → D j b → i = j) ∧ ∀ (i : Nat) (A : Asrt), Γ[i]? = some A → A.sat h (D i)

theorem Sat.nil (h : H) : Sat h [] := ⟨fun _ _ => False, fun _ _ _ h => h.elim, fun i A hi => by simp at hi⟩

theorem fr_at {S : Nat → Prop} {h h' : H} (hf : Fr S h h') {b : Nat} (hb : b < h.size) (hn : ¬ S b) : h'[b]? = h[b]? := hf.2 b hb hn

/-- Nothing that lay there has turned. -/
theorem Sat.fr {h h' : H} {Γ : List Asrt} (hs : Sat h Γ) (hf : Fr noB h h') : Sat h' Γ := by
  obtain ⟨D, hd, hsat⟩ := hs
  exact ⟨D, hd, fun i A hi => A.loc (hsat i A hi) hf.1 fun b hb => fr_at hf (A.bnd (hsat i A hi) b hb) fun h => h⟩

/-- One part turns. -/
theorem Sat.upd {h : H} {Γ : List Asrt} (hs : Sat h Γ) {i : Nat} {A : Asrt} (hi : Γ[i]? = some A) :
    ∃ d, A.sat h d ∧ ∀ {S : Nat → Prop} {h' : H} {A' : Asrt} {d' : Nat → Prop}, Fr S h h' → (∀ b, S b → d b ∨ h.size ≤ b) → A'.sat h' d' → (∀ b, d' b → d b ∨ h.size ≤ b) → Sat h' (Γ.set i A') := by
  obtain ⟨D, hd, hsat⟩ := hs
  refine ⟨D i, hsat i A hi, fun {S h' A' d'} hf hS hA' hd' => ?_⟩
  have hlt : i < Γ.length := (List.getElem?_eq_some_iff.1 hi).1
  have old : ∀ k b, Γ[k]? ≠ none → D k b → b < h.size := fun k b hk hb => by
    obtain ⟨B, hB⟩ := Option.ne_none_iff_exists'.1 hk
    exact B.bnd (hsat k B hB) b hb
  refine ⟨fun k b => if k = i then d' b else Γ[k]? ≠ none ∧ D k b, ?_, ?_⟩
  · intro a c b ha hc
    by_cases e1 : a = i <;> by_cases e2 : c = i
    · omega
    · rw [if_pos e1] at ha; rw [if_neg e2] at hc
      rcases hd' b ha with h1 | h1
      · exact absurd (hd _ _ _ h1 hc.2) fun e => e2 e.symm
      · exact absurd (old c b hc.1 hc.2) (by omega)
    · rw [if_neg e1] at ha; rw [if_pos e2] at hc
      rcases hd' b hc with h1 | h1
      · exact absurd (hd _ _ _ ha.2 h1) e1
      · exact absurd (old a b ha.1 ha.2) (by omega)
    · rw [if_neg e1] at ha; rw [if_neg e2] at hc
      exact hd _ _ _ ha.2 hc.2
  · intro k B hk
    by_cases e : k = i
    · subst e
      rw [List.getElem?_set_self hlt] at hk
      cases hk
      have : (fun b => if k = k then d' b else Γ[k]? ≠ none ∧ D k b) = d' := by funext b; rw [if_pos rfl]
      refine Eq.mpr (congrArg (A'.sat h') this) ?_
      exact hA'
    · rw [List.getElem?_set_ne (fun h => e h.symm)] at hk
      have : (fun b => if k = i then d' b else Γ[k]? ≠ none ∧ D k b) = D k := by
        funext b; rw [if_neg e, hk]; simp
      refine Eq.mpr (congrArg (B.sat h') this) ?_
      refine B.loc (hsat k B hk) hf.1 fun b hb => fr_at hf (B.bnd (hsat k B hk) b hb) fun hSb => ?_
      rcases hS b hSb with h1 | h1
      · exact e (hd _ _ _ hb h1)
      · exact absurd (B.bnd (hsat k B hk) b hb) (by omega)

/-- A part is looked at. -/
theorem Sat.at {h : H} {Γ : List Asrt} (hs : Sat h Γ) {i : Nat} {A : Asrt} (hi : Γ[i]? = some A) : ∃ d, A.sat h d := by
  obtain ⟨D, hd, hsat⟩ := hs
  exact ⟨D i, hsat i A hi⟩

/-- Two parts are two. -/
theorem Sat.two {h : H} {Γ : List Asrt} (hs : Sat h Γ) {i j : Nat} {A B : Asrt} (hi : Γ[i]? = some A) (hj : Γ[j]? = some B) (hne : i ≠ j) :
    ∃ d e, A.sat h d ∧ B.sat h e ∧ (∀ b, d b → ¬ e b) ∧ ∀ {S : Nat → Prop} {h' : H} {A' B' : Asrt} {d' e' : Nat → Prop}, Fr S h h' → (∀ b, S b → d b ∨ e b ∨ h.size ≤ b) →
      A'.sat h' d' → B'.sat h' e' → (∀ b, d' b → ¬ e' b) → (∀ b, d' b ∨ e' b → d b ∨ e b ∨ h.size ≤ b) → Sat h' ((Γ.set i A').set j B') := by
  obtain ⟨D, hd, hsat⟩ := hs
  refine ⟨D i, D j, hsat i A hi, hsat j B hj, fun b h1 h2 => hne (hd _ _ _ h1 h2), fun {S h' A' B' d' e'} hf hS hA' hB' hdis hin => ?_⟩
  have hlti : i < Γ.length := (List.getElem?_eq_some_iff.1 hi).1
  have hltj : j < Γ.length := (List.getElem?_eq_some_iff.1 hj).1
  have old : ∀ k b, Γ[k]? ≠ none → D k b → b < h.size := fun k b hk hb => by
    obtain ⟨B, hB⟩ := Option.ne_none_iff_exists'.1 hk
    exact B.bnd (hsat k B hB) b hb
  have far : ∀ k b, k ≠ i → k ≠ j → Γ[k]? ≠ none → D k b → ¬ (D i b ∨ D j b ∨ h.size ≤ b) := fun k b h1 h2 h3 h4 h5 => by
    rcases h5 with h5 | h5 | h5
    · exact h1 (hd _ _ _ h4 h5)
    · exact h2 (hd _ _ _ h4 h5)
    · have := old k b h3 h4; omega
  refine ⟨fun k b => if k = i then d' b else if k = j then e' b else Γ[k]? ≠ none ∧ D k b, ?_, ?_⟩
  · intro a c b ha hc
    by_cases a1 : a = i
    · rw [if_pos a1] at ha
      by_cases c1 : c = i
      · omega
      · rw [if_neg c1] at hc
        by_cases c2 : c = j
        · rw [if_pos c2] at hc; exact absurd hc (hdis b ha)
        · rw [if_neg c2] at hc; exact absurd (hin b (.inl ha)) (far c b c1 c2 hc.1 hc.2)
    · rw [if_neg a1] at ha
      by_cases a2 : a = j
      · rw [if_pos a2] at ha
        by_cases c1 : c = i
        · rw [if_pos c1] at hc; exact absurd ha (hdis b hc)
        · rw [if_neg c1] at hc
          by_cases c2 : c = j
          · omega
          · rw [if_neg c2] at hc; exact absurd (hin b (.inr ha)) (far c b c1 c2 hc.1 hc.2)
      · rw [if_neg a2] at ha
        by_cases c1 : c = i
        · rw [if_pos c1] at hc; exact absurd (hin b (.inl hc)) (far a b a1 a2 ha.1 ha.2)
        · rw [if_neg c1] at hc
          by_cases c2 : c = j
          · rw [if_pos c2] at hc; exact absurd (hin b (.inr hc)) (far a b a1 a2 ha.1 ha.2)
          · rw [if_neg c2] at hc
            exact hd _ _ _ ha.2 hc.2
  · intro k C hk
    by_cases k2 : k = j
    · subst k2
      rw [List.getElem?_set_self (by simpa using hltj)] at hk
      cases hk
      have : (fun b => if k = i then d' b else if k = k then e' b else Γ[k]? ≠ none ∧ D k b) = e' := by funext b; rw [if_neg (fun h => hne h.symm), if_pos rfl]
      refine Eq.mpr (congrArg (B'.sat h') this) ?_
      exact hB'
    · rw [List.getElem?_set_ne (fun h => k2 h.symm)] at hk
      by_cases k1 : k = i
      · subst k1
        rw [List.getElem?_set_self hlti] at hk
        cases hk
        have : (fun b => if k = k then d' b else if k = j then e' b else Γ[k]? ≠ none ∧ D k b) = d' := by funext b; rw [if_pos rfl]
        refine Eq.mpr (congrArg (A'.sat h') this) ?_
        exact hA'
      · rw [List.getElem?_set_ne (fun h => k1 h.symm)] at hk
        have : (fun b => if k = i then d' b else if k = j then e' b else Γ[k]? ≠ none ∧ D k b) = D k := by
          funext b; rw [if_neg k1, if_neg k2, hk]; simp
        refine Eq.mpr (congrArg (C.sat h') this) ?_
        refine C.loc (hsat k C hk) hf.1 fun b hb => fr_at hf (C.bnd (hsat k C hk) b hb) fun hSb => ?_
        exact far k b k1 k2 (by rw [hk]; simp) hb (hS b hSb)

/-- A new part behind the others. -/
theorem Sat.new {h h' : H} {Γ : List Asrt} (hs : Sat h Γ) (hf : Fr noB h h') {A : Asrt} {d : Nat → Prop} (hA : A.sat h' d) (hd : ∀ b, d b → h.size ≤ b) : Sat h' (Γ ++ [A]) := by
  obtain ⟨D, hdis, hsat⟩ := hs
  have old : ∀ k b, k < Γ.length → D k b → b < h.size := fun k b hk hb => (Γ[k]).bnd (hsat k _ (by simp [hk])) b hb
  refine ⟨fun k b => if k < Γ.length then D k b else k = Γ.length ∧ d b, ?_, ?_⟩
  · intro a c b ha hc
    by_cases a1 : a < Γ.length <;> by_cases c1 : c < Γ.length
    · rw [if_pos a1] at ha; rw [if_pos c1] at hc; exact hdis _ _ _ ha hc
    · rw [if_pos a1] at ha; rw [if_neg c1] at hc
      have := old a b a1 ha; have := hd b hc.2; omega
    · rw [if_neg a1] at ha; rw [if_pos c1] at hc
      have := old c b c1 hc; have := hd b ha.2; omega
    · rw [if_neg a1] at ha; rw [if_neg c1] at hc; omega
  · intro k B hk
    by_cases k1 : k < Γ.length
    · rw [List.getElem?_append_left k1] at hk
      have : (fun b => if k < Γ.length then D k b else k = Γ.length ∧ d b) = D k := by funext b; rw [if_pos k1]
      refine Eq.mpr (congrArg (B.sat h') this) ?_
      exact B.loc (hsat k B hk) hf.1 fun b hb => fr_at hf (B.bnd (hsat k B hk) b hb) fun h => h
    · have hl := (List.getElem?_eq_some_iff.1 hk).1
      simp only [List.length_append, List.length_cons, List.length_nil] at hl
      obtain rfl : k = Γ.length := by omega
      rw [List.getElem?_append_right (Nat.le_refl _), Nat.sub_self] at hk
      cases hk
      have : (fun b => if Γ.length < Γ.length then D Γ.length b else Γ.length = Γ.length ∧ d b) = d := by funext b; rw [if_neg (by omega)]; simp
      refine Eq.mpr (congrArg (A.sat h') this) ?_
      exact hA

/-- Some of the parts, in some order. -/
theorem Sat.sub {h : H} {Γ Δ : List Asrt} (hs : Sat h Γ) (f : Nat → Nat) (hinj : ∀ i j, i < Δ.length → j < Δ.length → f i = f j → i = j) (hf : ∀ i, i < Δ.length → Γ[f i]? = Δ[i]?) : Sat h Δ := by
  obtain ⟨D, hdis, hsat⟩ := hs
  refine ⟨fun i b => i < Δ.length ∧ D (f i) b, fun i j b hi hj => hinj i j hi.1 hj.1 (hdis _ _ _ hi.2 hj.2), fun i A hi => ?_⟩
  have hl := (List.getElem?_eq_some_iff.1 hi).1
  have : (fun b => i < Δ.length ∧ D (f i) b) = D (f i) := by funext b; simp [hl]
  refine Eq.mpr (congrArg (A.sat h) this) ?_
  exact hsat _ _ ((hf i hl).trans hi)

theorem Sat.init {h : H} {Γ : List Asrt} {A : Asrt} (hs : Sat h (Γ ++ [A])) : Sat h Γ :=
  hs.sub id (fun _ _ _ _ h => h) fun i hi => by simp [List.getElem?_append_left hi]

/-- A part said in other words. -/
theorem Sat.as {h : H} {Γ : List Asrt} (hs : Sat h Γ) {i : Nat} {A A' : Asrt} (hi : Γ[i]? = some A) (ha : ∀ d, A.sat h d → A'.sat h d) : Sat h (Γ.set i A') := by
  obtain ⟨d, hd, up⟩ := hs.upd hi
  exact up (Fr.refl noB h) (fun b hb => hb.elim) (ha d hd) fun b hb => .inl hb

/-! ### Parts -/

/-- A predicate on a fixed set of blocks. -/
def onBlks (bs : List Nat) (p : H → Prop) (loc : ∀ {h h' : H}, p h → h.size ≤ h'.size → (∀ b, b ∈ bs → h'[b]? = h[b]?) → p h') (bnd : ∀ {h : H}, p h → ∀ b, b ∈ bs → b < h.size) : Asrt where
  sat h d := p h ∧ ∀ b, d b ↔ b ∈ bs
  loc := fun hs hl he => ⟨loc hs.1 hl fun b hb => he b ((hs.2 b).2 hb), hs.2⟩
  bnd := fun hs b hb => bnd hs.1 b ((hs.2 b).1 hb)

theorem blk_loc {h h' : H} {b : Nat} {t : TypeId} {vs : List Value} (hb : Blk h b t vs) (he : h'[b]? = h[b]?) : Blk h' b t vs := by
  unfold Blk; rw [he]; exact hb

/-- One block. -/
def blkA (b : Nat) (t : TypeId) (vs : List Value) : Asrt :=
  onBlks [b] (fun h => Blk h b t vs) (fun hb _ he => blk_loc hb (he b (by simp))) fun hb x hx => by rw [List.mem_singleton.1 hx]; exact hb.lt

/-- All that lay there at the outset. -/
def oldA (h0 : H) : Asrt where
  sat h d := h0.size ≤ h.size ∧ (∀ b, b < h0.size → h[b]? = h0[b]?) ∧ ∀ b, d b ↔ b < h0.size
  loc := fun hs hl he => ⟨Nat.le_trans hs.1 hl, fun b hb => (he b ((hs.2.2 b).2 hb)).trans (hs.2.1 b hb), hs.2.2⟩
  bnd := fun hs b hb => Nat.lt_of_lt_of_le ((hs.2.2 b).1 hb) hs.1

theorem Sat.old (h : H) : Sat h [oldA h] := by
  refine ⟨fun i b => i = 0 ∧ b < h.size, fun i j b hi hj => by omega, fun i A hi => ?_⟩
  match i with
  | 0 =>
    simp at hi
    subst hi
    exact ⟨Nat.le_refl _, fun _ _ => rfl, fun b => by simp⟩
  | i + 1 => simp at hi

theorem Sat.oldCell {h h0 : H} {Γ : List Asrt} (hs : Sat h Γ) {i : Nat} (hi : Γ[i]? = some (oldA h0)) {a : Addr} {v : Value} (hc : cell h0 a = some v) : cell h a = some v := by
  obtain ⟨d, h1, h2, h3⟩ := hs.at hi
  by_cases hlt : a.block < h0.size
  · unfold cell at hc ⊢
    rw [h2 _ hlt]
    exact hc
  · unfold cell at hc
    rw [Array.getElem?_eq_none (by omega)] at hc
    cases hc

theorem Sat.oldFr {h h0 : H} {Γ : List Asrt} (hs : Sat h Γ) {i : Nat} (hi : Γ[i]? = some (oldA h0)) : Fr noB h0 h := by
  obtain ⟨d, h1, h2, h3⟩ := hs.at hi
  exact ⟨h1, fun b hb _ => h2 b hb⟩

/-- A slice's row, from some place of a block on: the slice's own. -/
def rowA (e : TypeId) (size : Nat) (p : Option Addr) (n c : Nat) (xs : List Value) : Asrt where
  sat h d := OwnO h 0 e size p n c xs ∧ (∀ b, d b ↔ blkOf p b)
  loc := fun hs hl he => ⟨hs.1.fr (S := fun b => ¬ blkOf p b) ⟨hl, fun b _ hb => he b ((hs.2 b).2 (Classical.not_not.1 hb))⟩ (fun b hb hn => hn hb), hs.2⟩
  bnd := fun {h d} hs b hb => by
    obtain ⟨a, rfl, rfl⟩ := (hs.2 b).1 hb
    rcases hs.1.2 with ⟨h0, _⟩ | ⟨g, o, cur, he, h1, h2, _⟩
    · cases h0
    · cases he
      exact (Array.getElem?_eq_some_iff.1 h2).1

/-! ### Loads and stores, a field at a time -/

theorem nP {h : H} {b o k : Nat} {t : TypeId} {vs : List Value} {p : Option Addr} {K : Addr → Option Addr → Prop} (hb : Blk h b t vs) (hv : vs[o + k]? = some (.pointer p)) (hk : K ⟨b, o, none⟩ p) :
    nilC (some ⟨b, o, none⟩) (fun a => ldP h (Addr.add a k) (K a)) := ⟨_, rfl, by simp only [add_mk]; exact ldP_of (by rw [hb.cell]; exact hv) hk⟩
theorem nI {h : H} {b o k : Nat} {t : TypeId} {vs : List Value} {i : IntKind} {n : Int} {K : Addr → Int → Prop} (hb : Blk h b t vs) (hv : vs[o + k]? = some (.int i n)) (hk : K ⟨b, o, none⟩ n) :
    nilC (some ⟨b, o, none⟩) (fun a => ldI h (Addr.add a k) i (K a)) := ⟨_, rfl, by simp only [add_mk]; exact ldI_of (by rw [hb.cell]; exact hv) hk⟩
theorem nB {h : H} {b o k : Nat} {t : TypeId} {vs : List Value} {x : Bool} {K : Addr → Bool → Prop} (hb : Blk h b t vs) (hv : vs[o + k]? = some (.bool x)) (hk : K ⟨b, o, none⟩ x) :
    nilC (some ⟨b, o, none⟩) (fun a => ldB h (Addr.add a k) (K a)) := ⟨_, rfl, by simp only [add_mk]; exact ldB_of (by rw [hb.cell]; exact hv) hk⟩
theorem nM {h : H} {b o k : Nat} {t : TypeId} {vs : List Value} {r : Option Nat} {K : Addr → Option Nat → Prop} (hb : Blk h b t vs) (hv : vs[o + k]? = some (.map r)) (hk : K ⟨b, o, none⟩ r) :
    nilC (some ⟨b, o, none⟩) (fun a => ldM h (Addr.add a k) (K a)) := ⟨_, rfl, by simp only [add_mk]; exact ldM_of (by rw [hb.cell]; exact hv) hk⟩
theorem nL {h : H} {b o k : Nat} {t : TypeId} {vs : List Value} {p : Option Addr} {n c : Nat} {K : Addr → Option Addr → Nat → Nat → Prop} (hb : Blk h b t vs) (hv : vs[o + k]? = some (.slice p n c)) (hk : K ⟨b, o, none⟩ p n c) :
    nilC (some ⟨b, o, none⟩) (fun a => ldL h (Addr.add a k) (K a)) := ⟨_, rfl, by simp only [add_mk]; exact ldL_of (by rw [hb.cell]; exact hv) hk⟩
theorem nSt {h : H} {b o k : Nat} {t : TypeId} {vs : List Value} {v : Value} {K : Addr → H → Prop} (hb : Blk h b t vs) (ho : o + k < vs.length) (hk : ∀ h', Fr (· = b) h h' → Blk h' b t (vs.set (o + k) v) → K ⟨b, o, none⟩ h') :
    nilC (some ⟨b, o, none⟩) (fun a => stC h (Addr.add (Addr.add a k) 0) v (K a)) := ⟨_, rfl, by
      simp only [add_mk, Nat.add_zero]
      exact stC_of hb ho (hk _ (Fr.set h _ v) (hb.set _ v))⟩
/-- The same without the look at nil. -/
theorem lP {h : H} {b o k : Nat} {t : TypeId} {vs : List Value} {p : Option Addr} {K : Option Addr → Prop} (hb : Blk h b t vs) (hv : vs[o + k]? = some (.pointer p)) (hk : K p) : ldP h (Addr.add ⟨b, o, none⟩ k) K := by
  rw [add_mk]; exact ldP_of (by rw [hb.cell]; exact hv) hk
theorem lI {h : H} {b o k : Nat} {t : TypeId} {vs : List Value} {i : IntKind} {n : Int} {K : Int → Prop} (hb : Blk h b t vs) (hv : vs[o + k]? = some (.int i n)) (hk : K n) : ldI h (Addr.add ⟨b, o, none⟩ k) i K := by
  rw [add_mk]; exact ldI_of (by rw [hb.cell]; exact hv) hk
theorem lB {h : H} {b o k : Nat} {t : TypeId} {vs : List Value} {x : Bool} {K : Bool → Prop} (hb : Blk h b t vs) (hv : vs[o + k]? = some (.bool x)) (hk : K x) : ldB h (Addr.add ⟨b, o, none⟩ k) K := by
  rw [add_mk]; exact ldB_of (by rw [hb.cell]; exact hv) hk
theorem lL {h : H} {b o k : Nat} {t : TypeId} {vs : List Value} {p : Option Addr} {n c : Nat} {K : Option Addr → Nat → Nat → Prop} (hb : Blk h b t vs) (hv : vs[o + k]? = some (.slice p n c)) (hk : K p n c) : ldL h (Addr.add ⟨b, o, none⟩ k) K := by
  rw [add_mk]; exact ldL_of (by rw [hb.cell]; exact hv) hk
theorem lM {h : H} {b o k : Nat} {t : TypeId} {vs : List Value} {r : Option Nat} {K : Option Nat → Prop} (hb : Blk h b t vs) (hv : vs[o + k]? = some (.map r)) (hk : K r) : ldM h (Addr.add ⟨b, o, none⟩ k) K := by
  rw [add_mk]; exact ldM_of (by rw [hb.cell]; exact hv) hk
theorem sT {h : H} {b o k : Nat} {t : TypeId} {vs : List Value} {v : Value} {K : H → Prop} (hb : Blk h b t vs) (ho : o + k < vs.length) (hk : ∀ h', Fr (· = b) h h' → Blk h' b t (vs.set (o + k) v) → K h') :
    stC h (Addr.add ⟨b, o, none⟩ k) v K := by
  rw [add_mk]; exact stC_of hb ho (hk _ (Fr.set h _ v) (hb.set _ v))
/-- A new block. -/
theorem nW {h : H} {cs : List Value} {t : TypeId} {K : Addr → H → Prop} (hk : ∀ h', Fr noB h h' → h.size < h'.size → Blk h' h.size t cs → K ⟨h.size, 0, none⟩ h') : newC h cs t K :=
  newC_of (hk _ (Fr.push h _) (by rw [Array.size_push]; omega) (Blk.new h t cs))

theorem rawV_run {P : Program} {s : Sem Value} {h : H} {K : Value → H → Prop} (hr : ∀ w : World, w.heap = h → ∃ v w', s.run P w = .ok v w' ∧ Same w w' ∧ K v w'.heap) : rawV P s h K := by
  intro w hw
  obtain ⟨v, w', hrun, h1, h2⟩ := hr w hw
  rw [hrun]
  exact ⟨h1, h2⟩
theorem rawU_run {P : Program} {s : Sem Unit} {h : H} {K : H → Prop} (hr : ∀ w : World, w.heap = h → ∃ w', s.run P w = .ok () w' ∧ Same w w' ∧ K w'.heap) : rawU P s h K := by
  intro w hw
  obtain ⟨w', hrun, h1, h2⟩ := hr w hw
  rw [hrun]
  exact ⟨h1, h2⟩

theorem least {p : Nat → Prop} (h : ∃ k, p k) : ∃ k, p k ∧ ∀ j, p j → k ≤ j := by
  obtain ⟨k, hk⟩ := h
  induction k using Nat.strongRecOn with
  | ind k ih =>
    by_cases hj : ∃ j, j < k ∧ p j
    · obtain ⟨j, h1, h2⟩ := hj
      exact ih j h1 h2
    · exact ⟨k, hk, fun j hpj => Nat.le_of_not_lt fun hl => hj ⟨j, hl, hpj⟩⟩

/-- A loop, by an invariant that bears a measure of its own. -/
theorem loop_rel {σ : Type} {step : (σ → H → Prop) → σ → H → Prop} {s : σ} {h : H} (I : σ → H → Nat → Prop) (k0 : Nat) (h0 : I s h k0)
    (hr : ∀ s h k, I s h k → ∀ J : σ → H → Prop, (∀ s' h' k', k' < k → I s' h' k' → J s' h') → step J s h) : loopT step s h := by
  classical
  let μ : σ → H → Nat := fun s h => if hx : ∃ k, I s h k then Classical.choose (least hx) else 0
  refine ⟨fun s h => ∃ k, I s h k, μ, ⟨k0, h0⟩, fun s h hx => ?_⟩
  have e : μ s h = Classical.choose (least hx) := dif_pos hx
  obtain ⟨h1, h2⟩ := Classical.choose_spec (least hx)
  rw [e]
  refine hr s h _ h1 _ fun s' h' k' hk hI => ⟨⟨k', hI⟩, ?_⟩
  have hx' : ∃ k, I s' h' k := ⟨k', hI⟩
  have e' : μ s' h' = Classical.choose (least hx') := dif_pos hx'
  rw [e']
  exact Nat.lt_of_le_of_lt ((Classical.choose_spec (least hx')).2 k' hI) hk

theorem wfI {n : Int} (h1 : -9223372036854775808 ≤ n) (h2 : n < 9223372036854775808) : (Lit.int .i64 n).wf = true := by
  have e1 : IntKind.min .i64 = -9223372036854775808 := by decide
  have e2 : IntKind.max .i64 = 9223372036854775807 := by decide
  simp only [Lit.wf, e1, e2]
  rw [decide_eq_true h1, decide_eq_true (by omega)]
  rfl
theorem wfI_iff {n : Int} : (Lit.int .i64 n).wf = true ↔ -9223372036854775808 ≤ n ∧ n < 9223372036854775808 := by
  have e1 : IntKind.min .i64 = -9223372036854775808 := by decide
  have e2 : IntKind.max .i64 = 9223372036854775807 := by decide
  simp only [Lit.wf, e1, e2, Bool.and_eq_true, decide_eq_true_eq]
  omega
theorem wfU {n : Int} (h1 : 0 ≤ n) (h2 : n < 18446744073709551616) : (Lit.int .u64 n).wf = true := by
  have e1 : IntKind.min .u64 = 0 := by decide
  have e2 : IntKind.max .u64 = 18446744073709551615 := by decide
  simp only [Lit.wf, e1, e2]
  rw [decide_eq_true h1, decide_eq_true (by omega)]
  rfl

end Go.GLM

namespace Go.GLM
open Go Go.GL Go.Maps

/-- Block r is a map of at most n entries that reads as the datum D. -/
def MapO (h : H) (P : Program) (k : TypeId) (R : Value → Option (DataW Unit × List MemPlace)) (r n : Nat) (D : DataW Unit) : Prop := ∃ w : World, w.heap = h ∧ w.ownsMap P k R r n D

section
variable {P : Program} {k : TypeId} {R : Value → Option (DataW Unit × List MemPlace)} {h h' : H} {r n : Nat} {D : DataW Unit}

theorem MapO.to (hm : MapO h P k R r n D) (w : World) (hw : w.heap = h) : w.ownsMap P k R r n D := by
  obtain ⟨w0, rfl, es, clock, hb, F, hs, hD⟩ := hm
  exact ⟨es, clock, by rw [hw]; exact hb, F, hs, hD⟩

theorem MapO.loc (hm : MapO h P k R r n D) (he : h'[r]? = h[r]?) : MapO h' P k R r n D := by
  obtain ⟨w0, rfl, es, clock, hb, F, hs, hD⟩ := hm
  exact ⟨{ w0 with heap := h' }, rfl, es, clock, he.trans hb, F, hs, hD⟩

theorem MapO.lt (hm : MapO h P k R r n D) : r < h.size := by
  obtain ⟨w0, rfl, hw⟩ := hm
  exact hw.lt

theorem MapO.made (h : H) (P : Program) (k : TypeId) (R : Value → Option (DataW Unit × List MemPlace)) (w : World) (hw : w.heap = h) : MapO (h.push (.map #[] 0)) P k R h.size 0 (.map []) := by
  subst hw
  exact ⟨w.alloc (.map #[] 0), rfl, World.ownsMap_made w P k R⟩

/-- 'map[K]V{}' -/
theorem makeMap_of {t : TypeId} {K : Value → H → Prop} (hk : ∀ h', Fr noB h h' → h.size < h'.size → MapO h' P k R h.size 0 (.map []) → K (.map (some h.size)) h') : rawV P (Instr.makeMap t none) h K := by
  intro w hw
  subst hw
  rw [Go.RowKit.run_makeMap]
  exact ⟨Same.refl _, hk _ (Fr.push _ _) (by show w.heap.size < (w.heap.push _).size; rw [Array.size_push]; omega) (MapO.made _ P k R w rfl)⟩
end

/-- A set of numbers as a map's datum. -/
abbrev zset (ss : List Int) : DataW Unit := setOf (.lit (.bool true)) (ss.map (Lit.int .i64 ·))

theorem zset_snoc (ss : List Int) (x : Int) : zset (ss ++ [x]) = (zset ss).put (.int .i64 x) (.lit (.bool true)) := by
  unfold zset
  rw [List.map_append, List.map_singleton, setOf_snoc]

theorem zset_tidy (ss : List Int) : Tidy (zset ss) := tidy_setOf _ _ fun x hx => by
  obtain ⟨y, _, rfl⟩ := List.mem_map.1 hx
  trivial

theorem zset_has (ss : List Int) (x : Int) : has (zset ss) (.int .i64 x) = decide (x ∈ ss) := by
  unfold zset
  rw [has_setOf _ _ _ fun x hx => by obtain ⟨y, _, rfl⟩ := List.mem_map.1 hx; trivial]
  rw [List.any_map]
  induction ss with
  | nil => rfl
  | cons y r ih =>
    rw [List.any_cons, ih]
    by_cases h : y = x
    · subst h
      simp [WideAt.sameKey_self (show WideAt.IsKeyLit (.int .i64 y) from trivial)]
    · have : (Lit.int .i64 y).sameKey (.int .i64 x) = false := sameKey_ne (by simpa using h)
      simp [this, Ne.symm h]

theorem zset_at (x : Int) (z : DataW Unit) : ∀ (ss : List Int), (zset ss).atKey (.int .i64 x) z = if x ∈ ss then .lit (.bool true) else z := by
  intro ss
  by_cases hx : x ∈ ss
  · rw [if_pos hx]
    obtain ⟨a, b, rfl⟩ := List.append_of_mem hx
    clear hx
    generalize hl : b.reverse = c
    have : b = c.reverse := by rw [← hl, List.reverse_reverse]
    subst this
    clear hl
    induction c with
    | nil => rw [List.reverse_nil, show a ++ x :: [] = a ++ [x] from rfl, zset_snoc, atKey_put_same (zset_tidy a).isMap (show WideAt.IsKeyLit (.int .i64 x) from trivial)]
    | cons y c ih =>
      rw [List.reverse_cons, show a ++ x :: (c.reverse ++ [y]) = (a ++ x :: c.reverse) ++ [y] from by simp, zset_snoc]
      by_cases hy : x = y
      · subst hy; rw [atKey_put_same (zset_tidy _).isMap (show WideAt.IsKeyLit (.int .i64 x) from trivial)]
      · rw [atKey_put_other (by simpa using hy), ih]
  · rw [if_neg hx]
    exact atKey_of_not_has (by rw [zset_has]; simpa using hx) z

section
variable {P : Program} {t k e : TypeId} {h : H} {r : Nat} {ss : List Int}

/-- A set of numbers on the heap. -/
def setA (P : Program) (k e : TypeId) (r : Nat) (ss : List Int) : Asrt where
  sat h d := MapO h P k (plainElem P e) r ss.length (zset ss) ∧ ∀ b, d b ↔ b = r
  loc := fun hs _ he => ⟨hs.1.loc (he r ((hs.2 r).2 rfl)), hs.2⟩
  bnd := fun hs b hb => by rw [(hs.2 b).1 hb]; exact hs.1.lt

theorem setLook_of {Γ : List Asrt} (hs : Sat h Γ) {i : Nat} (hi : Γ[i]? = some (setA P k e r ss)) (ht : P.underlying t = some (.map k e)) (hk : P.underlying k = some (.int .i64)) (he : P.underlying e = some .bool)
    (hz : ∀ w, (zeroValue e).run P w = .ok (.bool false) w) {x : Int} (hx : (Lit.int .i64 x).wf = true) {K : Value → H → Prop} (hK : K (.bool (decide (x ∈ ss))) h) : rawV P (Instr.lookup t (.map (some r)) (.int .i64 x) false) h K := by
  obtain ⟨d, hm, _⟩ := hs.at hi
  intro w hw
  obtain ⟨v, ps, hrun, hv⟩ := (hm.to w hw).lookup (int_keyed hk) ht (hz w) (plainElem_bool he false) (keyOf_int_mk hk hx)
  rw [hrun]
  refine ⟨Same.refl _, ?_⟩
  rw [zset_at] at hv
  have : v = .bool (decide (x ∈ ss)) := by
    unfold plainElem at hv
    rw [he] at hv
    cases v <;> simp at hv
    rename_i b
    have h1 := hv.1
    by_cases hx : x ∈ ss
    · rw [if_pos hx] at h1; simp [hx]; simpa using h1
    · rw [if_neg hx] at h1; simp [hx]; simpa using h1
  rw [this, hw]
  exact hK

theorem setPut_of {Γ : List Asrt} (hs : Sat h Γ) {i : Nat} (hi : Γ[i]? = some (setA P k e r ss)) (ht : P.underlying t = some (.map k e)) (hk : P.underlying k = some (.int .i64)) (he : P.underlying e = some .bool)
    (hl : ss.length < maxLen) {x : Int} (hx : (Lit.int .i64 x).wf = true) {K : H → Prop} (hK : ∀ h', Sat h' (Γ.set i (setA P k e r (ss ++ [x]))) → K h') : rawU P (Instr.mapUpdate t (.map (some r)) (.int .i64 x) (.bool true)) h K := by
  obtain ⟨d, ⟨hm, hd⟩, up⟩ := hs.upd hi
  intro w hw
  subst hw
  obtain ⟨w', hrun, hown, hg⟩ := (hm.to w rfl).update (int_keyed hk) ht hl (keyOf_int_mk hk hx) (plainElem_bool he true)
  rw [hrun]
  refine ⟨⟨hg.tape, hg.os, hg.output⟩, hK _ (up (S := (· = r)) (d' := (· = r)) ⟨hg.size, fun b hb hn => hg.block b hb fun e => hn (Option.some.inj e)⟩ (fun b hb => .inl ((hd b).2 hb)) ⟨⟨w', rfl, ?_⟩, fun b => Iff.rfl⟩ fun b hb => .inl ((hd b).2 hb))⟩
  rw [zset_snoc, List.length_append]
  exact hown

/-- A new, empty set. -/
theorem setNew_of {Γ : List Asrt} (hs : Sat h Γ) {K : Value → H → Prop} (hK : ∀ h', Fr noB h h' → Sat h' (Γ ++ [setA P k e h.size []]) → K (.map (some h.size)) h') : rawV P (Instr.makeMap t none) h K :=
  makeMap_of (k := k) (R := plainElem P e) fun h' hf hlt hm => hK h' hf (hs.new hf (d := (· = h.size)) ⟨hm, fun b => Iff.rfl⟩ fun b hb => by omega)
end

/-- Induction from a list's end. -/
theorem snoc_ind {α : Type} {p : List α → Prop} (h0 : p []) (hs : ∀ l x, p l → p (l ++ [x])) : ∀ l, p l := by
  intro l
  have : ∀ r : List α, p r.reverse := fun r => by
    induction r with
    | nil => exact h0
    | cons x r ih => rw [List.reverse_cons]; exact hs _ _ ih
  rw [← List.reverse_reverse l]
  exact this _

theorem MapO.ne {P : Program} {k : TypeId} {R : Value → Option (DataW Unit × List MemPlace)} {h : H} {r n : Nat} {D : DataW Unit} (hm : MapO h P k R r n D) {b : Nat} {cs : Array Value} {t : TypeId} {f : Nat × Nat} (hb : h[b]? = some (.cells cs t f)) : r ≠ b := by
  rintro rfl
  obtain ⟨w0, rfl, es, clock, hm, _⟩ := hm
  rw [hm] at hb
  cases hb

end Go.GLM

namespace Go.GLM
open Go Go.GL

/-- A slice whose cells read as xs. -/
def Src (h : H) (size : Nat) (p : Option Addr) (n c : Nat) (xs : List Value) : Prop :=
  xs.length = n * size ∧ ((p = none ∧ n = 0 ∧ c = 0) ∨ ∃ a, p = some a ∧ ∀ j u, xs[j]? = some u → cell h (a.add j) = some u)

theorem OwnO.src {h : H} {base : Nat} {e : TypeId} {size : Nat} {p : Option Addr} {n c : Nat} {xs : List Value} (ho : OwnO h base e size p n c xs) : Src h size p n c xs := by
  refine ⟨ho.1, ?_⟩
  rcases ho.2 with ⟨rfl, rfl, rfl⟩ | ⟨g, o, cur, rfl, h1, h2, h3⟩
  · exact .inl ⟨rfl, rfl, rfl⟩
  · refine .inr ⟨⟨g, o, none⟩, rfl, fun j u hu => ?_⟩
    have := (List.getElem?_eq_some_iff.1 hu).1
    rw [add_mk, ho.cell (by rw [← ho.1]; exact this)]
    exact hu

theorem Src.fr {h h' : H} {size : Nat} {p : Option Addr} {n c : Nat} {xs : List Value} (hs : Src h size p n c xs) (hc : ∀ a v, cell h a = some v → cell h' a = some v) : Src h' size p n c xs := by
  refine ⟨hs.1, ?_⟩
  rcases hs.2 with h1 | ⟨a, rfl, h1⟩
  · exact .inl h1
  · exact .inr ⟨a, rfl, fun j u hu => hc _ _ (h1 j u hu)⟩

theorem Fr.cell {h h' : H} (hf : Fr noB h h') {a : Addr} {v : Value} (hc : cell h a = some v) : Go.GL.cell h' a = some v := by
  have hlt : a.block < h.size := by
    unfold Go.GL.cell at hc
    by_cases hl : a.block < h.size
    · exact hl
    · rw [Array.getElem?_eq_none (by omega)] at hc; cases hc
  unfold Go.GL.cell at hc ⊢
  rw [hf.2 _ hlt fun h => h]
  exact hc

theorem appendNone_of {P : Program} {t e : TypeId} {size bytes : Nat} {z : Value} (ht : P.underlying t = some (.slice e)) (hi : (P.info? e).map (fun i => (i.zero, i.size, i.bytes)) = some (some z, size, bytes)) {h : H} {p : Option Addr} {n c : Nat}
    (hnc : n ≤ c) {ty : TypeId} {cs : Array Bool} {K : Value → H → Prop} (hk : K (.slice p n c) h) : rawN P (builtin .append #[t, t] ty cs #[.slice p n c, .slice none 0 0]) h K := by
  obtain ⟨i, hi', hzz⟩ := Option.map_eq_some_iff.1 hi
  intro w hw
  subst hw
  have hrun : (Builtin.append_ #[t, t] ty #[.slice p n c, .slice none 0 0]).run P w = .ok (.slice p n c) w := by
    cases p <;> simp [Builtin.append_, run_underlying ht, sizeOf, typeInfo, hi', Builtin.lenOf, Builtin.firstCells, hnc, storeCells]
  simp only [builtin, Sem.run_bind, Sem.run_pure, Result.andThen_ok, hrun]
  exact ⟨Same.refl _, hk⟩

section
variable {P : Program} {t e : TypeId} {z : Value} {size bytes : Nat} {h : H} {Γ : List Asrt} {i : Nat} {p : Option Addr} {n c : Nat} {xs : List Value}

theorem rowA_at (hs : Sat h Γ) (hi : Γ[i]? = some (rowA e size p n c xs)) : OwnO h 0 e size p n c xs := by
  obtain ⟨d, h1, _⟩ := hs.at hi
  exact h1

theorem OwnO.le {base : Nat} (ho : OwnO h base e size p n c xs) : n ≤ c := by
  rcases ho.2 with ⟨_, h1, h2⟩ | ⟨g, o, cur, he, h1, h2, h3, _⟩
  · omega
  · exact h3

/-- 'append(xs, news...)' onto an own row. -/
theorem rowApp_of (ht : P.underlying t = some (.slice e)) (hinf : (P.info? e).map (fun i => (i.zero, i.size, i.bytes)) = some (some z, size, bytes)) (hzs : z.cells.size = size) (hsz : 0 < size)
    (hs : Sat h Γ) (hi : Γ[i]? = some (rowA e size p n c xs)) {q : Option Addr} {m k : Nat} {news : List Value} (hq : Src h size q m k news) (h1 : ∀ u ∈ news, u.oneCell' = true)
    (h63 : n + m ≤ maxLen) (hbytes : (n + m) * bytes ≤ 140737488355328) {ty : TypeId} {cs : Array Bool} {K : Value → H → Prop}
    (hk : ∀ p' c' h', Sat h' (Γ.set i (rowA e size p' (n + m) c' (xs ++ news))) → K (.slice p' (n + m) c') h') :
    rawN P (builtin .append #[t, t] ty cs #[.slice p n c, .slice q m k]) h K := by
  obtain ⟨d, ⟨ho, hd⟩, up⟩ := hs.upd hi
  rcases hq.2 with ⟨rfl, rfl, rfl⟩ | ⟨a, rfl, hc⟩
  · refine appendNone_of ht hinf ho.le ?_
    have : news = [] := List.eq_nil_of_length_eq_zero (by simpa using hq.1)
    subst this
    refine hk p c h (up (Fr.refl noB h) (fun b hb => hb.elim) (d' := blkOf p) ⟨by simpa using ho, fun b => Iff.rfl⟩ fun b hb => .inl ((hd b).2 hb))
  · refine appendQ_of ht hinf hzs hsz ho (Nat.zero_le _) hq.1 hc h1 h63 hbytes fun p' c' h' ho' hf hb' => hk p' c' h' (up hf (fun b hb => .inl ((hd b).2 hb)) (d' := blkOf p') ⟨ho', fun b => Iff.rfl⟩ fun b hb => ?_)
    rcases hb' b hb with h2 | h2
    · exact .inl ((hd b).2 h2)
    · exact .inr h2

/-- A nil slice as a row. -/
theorem Sat.rowNil (hs : Sat h Γ) (e : TypeId) (size : Nat) : Sat h (Γ ++ [rowA e size none 0 0 []]) :=
  hs.new (Fr.refl noB h) (d := fun _ => False) ⟨OwnO.nil _ _ _ _, fun b => ⟨fun h => h.elim, fun ⟨a, ha, _⟩ => by cases ha⟩⟩ fun b hb => hb.elim

/-- A new block as a row. -/
theorem Sat.rowNew (hs : Sat h Γ) {h' : H} {cs : List Value} {n : Nat} (hf : Fr noB h h') (hb : Blk h' h.size e cs) (hl : cs.length = n * size) (hn : n ≤ maxLen) : Sat h' (Γ ++ [rowA e size (some ⟨h.size, 0, none⟩) n n cs]) := by
  refine hs.new hf (d := (· = h.size)) ⟨⟨hl, .inr ⟨h.size, 0, ⟨cs⟩, rfl, Nat.zero_le _, hb, Nat.le_refl _, hn, by simp [hl], by simp [← hl]⟩⟩, fun b => ⟨fun h => ⟨_, rfl, h⟩, fun ⟨a, ha, hb⟩ => by cases ha; exact hb⟩⟩ fun b hb => by omega

theorem Sat.blkNew (hs : Sat h Γ) {h' : H} {t : TypeId} {cs : List Value} (hf : Fr noB h h') (hb : Blk h' h.size t cs) : Sat h' (Γ ++ [blkA h.size t cs]) :=
  hs.new hf (d := (· = h.size)) ⟨hb, fun b => by simp⟩ fun b hb => by omega

theorem blkA_at {b : Nat} {t : TypeId} {vs : List Value} (hs : Sat h Γ) (hi : Γ[i]? = some (blkA b t vs)) : Blk h b t vs := by
  obtain ⟨d, h1, _⟩ := hs.at hi
  exact h1

theorem Sat.blkSet {b : Nat} {t : TypeId} {vs vs' : List Value} (hs : Sat h Γ) (hi : Γ[i]? = some (blkA b t vs)) {h' : H} (hf : Fr (· = b) h h') (hb : Blk h' b t vs') : Sat h' (Γ.set i (blkA b t vs')) := by
  obtain ⟨d, h1, up⟩ := hs.upd hi
  exact up hf (fun x hx => .inl ((h1.2 x).2 (by simpa using hx))) (d' := (· = b)) ⟨hb, fun x => by simp⟩ fun x hx => .inl ((h1.2 x).2 (by simpa using hx))

/-- 'xs[1:]' -/
theorem rowTail_of {x : Value} {r : List Value} {k : Nat} (hs : Sat h Γ) (hi : Γ[i]? = some (rowA e 1 p (k + 1) c (x :: r))) {K : Option Addr → Nat → Nat → Prop} (hk : ∀ p', Sat h (Γ.set i (rowA e 1 p' k (c - 1) r)) → K p' k (c - 1)) :
    slc p (k + 1) c 1 (some 1) none K := by
  obtain ⟨d, ⟨ho, hd⟩, up⟩ := hs.upd hi
  refine ⟨1, k + 1, rfl, rfl, by omega, ho.le, ?_⟩
  have hlr := ho.1
  simp only [List.length_cons, Nat.mul_one] at hlr
  rcases ho.2 with ⟨_, _, h2⟩ | ⟨g, o, cur, rfl, h1, h2, h3, h4, h5, h6⟩
  · omega
  · have hb : ∀ b, blkOf (slcBase (some ⟨g, o, none⟩) c 1 1) b ↔ b = g := fun b => by
      unfold slcBase
      by_cases hc : c = 1
      · rw [if_pos hc]; exact ⟨fun ⟨a, ha, hb⟩ => by cases ha; exact hb, fun hb => ⟨_, rfl, hb⟩⟩
      · rw [if_neg hc, Option.map_some, add_mk]; exact ⟨fun ⟨a, ha, hb⟩ => by cases ha; exact hb, fun hb => ⟨_, rfl, hb⟩⟩
    refine hk _ (up (Fr.refl noB h) (fun b hb => hb.elim) (d' := (· = g)) ⟨?_, fun b => (hb b).symm⟩ fun b hbb => .inl ((hd b).2 ⟨_, rfl, hbb⟩))
    unfold slcBase
    by_cases hc : c = 1
    · rw [if_pos hc]
      subst hc
      obtain rfl : k = 0 := by omega
      have : r = [] := List.eq_nil_of_length_eq_zero (by omega)
      subst this
      exact ⟨rfl, .inr ⟨g, o, cur, rfl, h1, h2, by omega, by simp, by omega, by simp⟩⟩
    · rw [if_neg hc, Option.map_some, add_mk]
      exact ho.tail

/-- An element of a row of single cells. -/
theorem rowA_idx {x : Value} (hs : Sat h Γ) (hi : Γ[i]? = some (rowA e 1 p n c xs)) {j : Int} (h0 : 0 ≤ j) (h1 : xs[j.toNat]? = some x) {K : Addr → Prop} (hk : ∀ a, cell h a = some x → K a) : idx p n j 1 K := by
  have ho := rowA_at hs hi
  have hlt := (List.getElem?_eq_some_iff.1 h1).1
  have hl := ho.1
  rcases ho.2 with ⟨_, _, h2⟩ | ⟨g, o, cur, rfl, _⟩
  · omega
  · refine idx_of h0 (by omega) (hk _ ?_)
    rw [Nat.mul_one, ho.cell (by omega)]
    exact h1
end

theorem at_app {Γ Δ : List Asrt} {i : Nat} {A : Asrt} (h : Γ[i]? = some A) : (Γ ++ Δ)[i]? = some A := by
  rw [List.getElem?_append_left (List.getElem?_eq_some_iff.1 h).1]; exact h
theorem at_end {Γ Δ : List Asrt} {j : Nat} : (Γ ++ Δ)[Γ.length + j]? = Δ[j]? := by
  rw [List.getElem?_append_right (by omega), Nat.add_sub_cancel_left]
theorem set_end {Γ Δ : List Asrt} {j : Nat} {A : Asrt} : (Γ ++ Δ).set (Γ.length + j) A = Γ ++ Δ.set j A := by
  rw [List.set_append_right _ _ (by omega), Nat.add_sub_cancel_left]
theorem set_app {Γ Δ : List Asrt} {i : Nat} {A B : Asrt} (h : Γ[i]? = some A) : (Γ ++ Δ).set i B = Γ.set i B ++ Δ := by
  rw [List.set_append_left _ _ (List.getElem?_eq_some_iff.1 h).1]
theorem at_set {Γ : List Asrt} {i : Nat} {A B : Asrt} (h : Γ[i]? = some A) : (Γ.set i B)[i]? = some B := List.getElem?_set_self (List.getElem?_eq_some_iff.1 h).1
theorem at_ne {Γ : List Asrt} {i j : Nat} {A B : Asrt} (h : Γ[i]? = some A) (hne : j ≠ i) : (Γ.set j B)[i]? = some A := by rw [List.getElem?_set_ne hne]; exact h
theorem set_id {Γ : List Asrt} {i : Nat} {A : Asrt} (h : Γ[i]? = some A) : Γ.set i A = Γ := by
  refine List.ext_getElem? fun j => ?_
  by_cases e : i = j
  · subst e; rw [at_set h, h]
  · rw [List.getElem?_set_ne e]

end Go.GLM

namespace Go.GLM
open Go Go.GL

/-- Two parts side by side, said as one. -/
def sepA (A B : Asrt) : Asrt where
  sat h d := ∃ d1 d2, A.sat h d1 ∧ B.sat h d2 ∧ (∀ b, d1 b → ¬ d2 b) ∧ ∀ b, d b ↔ (d1 b ∨ d2 b)
  loc := by
    rintro h h' d ⟨d1, d2, h1, h2, h3, h4⟩ hl he
    exact ⟨d1, d2, A.loc h1 hl fun b hb => he b ((h4 b).2 (.inl hb)), B.loc h2 hl fun b hb => he b ((h4 b).2 (.inr hb)), h3, h4⟩
  bnd := by
    rintro h d ⟨d1, d2, h1, h2, h3, h4⟩ b hb
    rcases (h4 b).1 hb with h5 | h5
    · exact A.bnd h1 b h5
    · exact B.bnd h2 b h5

/-- The last part is joined to another. -/
theorem Sat.join {h : H} {Γ : List Asrt} {A B : Asrt} {i : Nat} (hs : Sat h (Γ ++ [B])) (hi : Γ[i]? = some A) : Sat h (Γ.set i (sepA A B)) := by
  obtain ⟨D, hd, hsat⟩ := hs
  have hlt : i < Γ.length := (List.getElem?_eq_some_iff.1 hi).1
  have hA := hsat i A (at_app hi)
  have hB := hsat (Γ.length + 0) B at_end
  refine ⟨fun k b => if k = i then D i b ∨ D (Γ.length + 0) b else k < Γ.length ∧ D k b, ?_, ?_⟩
  · intro a c b ha hc
    by_cases a1 : a = i <;> by_cases c1 : c = i
    · omega
    · rw [if_pos a1] at ha; rw [if_neg c1] at hc
      rcases ha with h1 | h1
      · exact absurd (hd _ _ _ h1 hc.2) fun e => c1 e.symm
      · have := hd _ _ _ h1 hc.2; omega
    · rw [if_neg a1] at ha; rw [if_pos c1] at hc
      rcases hc with h1 | h1
      · exact absurd (hd _ _ _ ha.2 h1) a1
      · have := hd _ _ _ ha.2 h1; omega
    · rw [if_neg a1] at ha; rw [if_neg c1] at hc
      exact hd _ _ _ ha.2 hc.2
  · intro k C hk
    by_cases e : k = i
    · subst e
      rw [at_set hi] at hk
      cases hk
      refine ⟨D k, D (Γ.length + 0), hA, hB, fun b h1 h2 => ?_, fun b => ?_⟩
      · have := hd _ _ _ h1 h2; omega
      · simp
    · rw [List.getElem?_set_ne (fun h => e h.symm)] at hk
      have hl := (List.getElem?_eq_some_iff.1 hk).1
      have : (fun b => if k = i then D i b ∨ D (Γ.length + 0) b else k < Γ.length ∧ D k b) = D k := by
        funext b; rw [if_neg e]; simp [hl]
      refine Eq.mpr (congrArg (C.sat h) this) (hsat k C (at_app hk))

/-- A part that is one of two is parted. -/
theorem Sat.split {h : H} {Γ : List Asrt} {A B : Asrt} {i : Nat} (hs : Sat h Γ) (hi : Γ[i]? = some (sepA A B)) : Sat h (Γ.set i A ++ [B]) := by
  obtain ⟨D, hd, hsat⟩ := hs
  have hlt : i < Γ.length := (List.getElem?_eq_some_iff.1 hi).1
  obtain ⟨d1, d2, h1, h2, h3, h4⟩ := hsat i _ hi
  refine ⟨fun k b => if k = i then d1 b else if k < Γ.length then D k b else k = Γ.length ∧ d2 b, ?_, ?_⟩
  · intro a c b ha hc
    by_cases a1 : a = i
    · rw [if_pos a1] at ha
      by_cases c1 : c = i
      · omega
      · rw [if_neg c1] at hc
        by_cases c2 : c < Γ.length
        · rw [if_pos c2] at hc
          exact absurd (hd _ _ _ ((h4 b).2 (.inl ha)) hc) fun e => c1 e.symm
        · rw [if_neg c2] at hc
          exact absurd hc.2 (h3 b ha)
    · rw [if_neg a1] at ha
      by_cases a2 : a < Γ.length
      · rw [if_pos a2] at ha
        by_cases c1 : c = i
        · rw [if_pos c1] at hc
          exact absurd (hd _ _ _ ha ((h4 b).2 (.inl hc))) a1
        · rw [if_neg c1] at hc
          by_cases c2 : c < Γ.length
          · rw [if_pos c2] at hc
            exact hd _ _ _ ha hc
          · rw [if_neg c2] at hc
            exact absurd (hd _ _ _ ha ((h4 b).2 (.inr hc.2))) a1
      · rw [if_neg a2] at ha
        by_cases c1 : c = i
        · rw [if_pos c1] at hc
          exact absurd ha.2 (h3 b hc)
        · rw [if_neg c1] at hc
          by_cases c2 : c < Γ.length
          · rw [if_pos c2] at hc
            exact absurd (hd _ _ _ hc ((h4 b).2 (.inr ha.2))) c1
          · rw [if_neg c2] at hc
            omega
  · intro k C hk
    by_cases k1 : k = i
    · subst k1
      rw [at_app (at_set hi)] at hk
      cases hk
      have : (fun b => if k = k then d1 b else if k < Γ.length then D k b else k = Γ.length ∧ d2 b) = d1 := by funext b; simp
      exact Eq.mpr (congrArg (A.sat h) this) h1
    · by_cases k2 : k < Γ.length
      · rw [List.getElem?_append_left (by simpa using k2), List.getElem?_set_ne (fun h => k1 h.symm)] at hk
        have : (fun b => if k = i then d1 b else if k < Γ.length then D k b else k = Γ.length ∧ d2 b) = D k := by funext b; simp [k1, k2]
        exact Eq.mpr (congrArg (C.sat h) this) (hsat k C hk)
      · have hl := (List.getElem?_eq_some_iff.1 hk).1
        simp only [List.length_append, List.length_set, List.length_cons, List.length_nil] at hl
        obtain rfl : k = Γ.length := by omega
        rw [List.getElem?_append_right (by simp)] at hk
        simp at hk
        subst hk
        have : (fun b => if Γ.length = i then d1 b else if Γ.length < Γ.length then D Γ.length b else Γ.length = Γ.length ∧ d2 b) = d2 := by funext b; simp [k1]
        exact Eq.mpr (congrArg (B.sat h) this) h2

theorem Sat.left {h : H} {Γ Δ : List Asrt} (hs : Sat h (Γ ++ Δ)) : Sat h Γ :=
  hs.sub id (fun _ _ _ _ h => h) fun i hi => by simp [List.getElem?_append_left hi]

/-- Some of the last parts, in another order. -/
theorem Sat.pick {h : H} {Γ Δ Δ' : List Asrt} (hs : Sat h (Γ ++ Δ)) (ix : List Nat) (hn : ix.Nodup) (e : ix.map (fun j => Δ[j]?) = Δ'.map some) : Sat h (Γ ++ Δ') := by
  have hlen : ix.length = Δ'.length := by have := congrArg List.length e; simpa using this
  have he : ∀ k, k < Δ'.length → ∃ j, ix[k]? = some j ∧ Δ[j]? = Δ'[k]? := fun k hk => by
    have h1 : (ix.map (fun j => Δ[j]?))[k]? = (Δ'.map some)[k]? := by rw [e]
    rw [List.getElem?_map, List.getElem?_map] at h1
    have hk' : k < ix.length := by omega
    refine ⟨ix[k], by simp [hk'], ?_⟩
    simp [hk', hk] at h1
    simp [h1, hk]
  refine hs.sub (fun k => if k < Γ.length then k else Γ.length + (ix[k - Γ.length]?).getD 0) (fun a b ha hb hab => ?_) fun a ha => ?_
  · rw [List.length_append] at ha hb
    split at hab <;> split at hab
    · exact hab
    · omega
    · omega
    · obtain ⟨j1, e1, _⟩ := he (a - Γ.length) (by omega)
      obtain ⟨j2, e2, _⟩ := he (b - Γ.length) (by omega)
      rw [e1, e2] at hab
      simp only [Option.getD_some] at hab
      have hj : j1 = j2 := by omega
      subst hj
      have := (List.getElem?_inj (List.getElem?_eq_some_iff.1 e1).1 hn).1 (e1.trans e2.symm)
      omega
  · rw [List.length_append] at ha
    by_cases h1 : a < Γ.length
    · rw [if_pos h1, List.getElem?_append_left h1, List.getElem?_append_left h1]
    · rw [if_neg h1]
      obtain ⟨j1, e1, e2⟩ := he (a - Γ.length) (by omega)
      rw [e1, Option.getD_some, at_end, e2, List.getElem?_append_right (by omega)]

/-- There is some x such that .. -/
def exA {α : Type} (F : α → Asrt) : Asrt where
  sat h d := ∃ x, (F x).sat h d
  loc := fun ⟨x, hx⟩ hl he => ⟨x, (F x).loc hx hl he⟩
  bnd := fun ⟨x, hx⟩ b hb => (F x).bnd hx b hb

theorem Sat.open_ {h : H} {Γ : List Asrt} {α : Type} {F : α → Asrt} {i : Nat} (hs : Sat h Γ) (hi : Γ[i]? = some (exA F)) : ∃ x, Sat h (Γ.set i (F x)) := by
  obtain ⟨d, ⟨x, hx⟩, up⟩ := hs.upd hi
  exact ⟨x, up (Fr.refl noB h) (fun b hb => hb.elim) hx fun b hb => .inl hb⟩

theorem Sat.close {h : H} {Γ : List Asrt} {α : Type} {F : α → Asrt} {i : Nat} (x : α) (hs : Sat h Γ) (hi : Γ[i]? = some (F x)) : Sat h (Γ.set i (exA F)) := hs.as hi fun _ hd => ⟨x, hd⟩

/-- A part under a condition. -/
def andA (p : Prop) (A : Asrt) : Asrt where
  sat h d := p ∧ A.sat h d
  loc := fun hx hl he => ⟨hx.1, A.loc hx.2 hl he⟩
  bnd := fun hx b hb => A.bnd hx.2 b hb

theorem Sat.andOpen {h : H} {Γ : List Asrt} {p : Prop} {A : Asrt} {i : Nat} (hs : Sat h Γ) (hi : Γ[i]? = some (andA p A)) : p ∧ Sat h (Γ.set i A) := by
  obtain ⟨d, ⟨hp, hx⟩, up⟩ := hs.upd hi
  exact ⟨hp, up (Fr.refl noB h) (fun b hb => hb.elim) hx fun b hb => .inl hb⟩

theorem Sat.andClose {h : H} {Γ : List Asrt} {p : Prop} {A : Asrt} {i : Nat} (hp : p) (hs : Sat h Γ) (hi : Γ[i]? = some A) : Sat h (Γ.set i (andA p A)) := hs.as hi fun _ hd => ⟨hp, hd⟩

/-- Blocks of one type, no two the same. -/
def wsA (t : TypeId) (xs : List (Nat × List Value)) : Asrt where
  sat h d := (xs.map (·.1)).Nodup ∧ (∀ x ∈ xs, Blk h x.1 t x.2) ∧ ∀ b, d b ↔ b ∈ xs.map (·.1)
  loc := by
    rintro h h' d ⟨h1, h2, h3⟩ _ he
    exact ⟨h1, fun x hm => blk_loc (h2 x hm) (he x.1 ((h3 x.1).2 (List.mem_map.2 ⟨x, hm, rfl⟩))), h3⟩
  bnd := fun hx b hb => by
    obtain ⟨x, hm, rfl⟩ := List.mem_map.1 ((hx.2.2 b).1 hb)
    exact (hx.2.1 x hm).lt

theorem wsA_at {h : H} {Γ : List Asrt} {i : Nat} {t : TypeId} {xs : List (Nat × List Value)} (hs : Sat h Γ) (hi : Γ[i]? = some (wsA t xs)) {x : Nat × List Value} (hx : x ∈ xs) : Blk h x.1 t x.2 := by
  obtain ⟨d, h1⟩ := hs.at hi
  exact h1.2.1 x hx

/-- Some of the blocks, in another order. -/
theorem wsA_sub {h : H} {Γ : List Asrt} {i : Nat} {t : TypeId} {xs ys : List (Nat × List Value)} (hs : Sat h Γ) (hi : Γ[i]? = some (wsA t xs)) (hn : (ys.map (·.1)).Nodup) (hm : ∀ y ∈ ys, y ∈ xs) : Sat h (Γ.set i (wsA t ys)) := by
  obtain ⟨d, ⟨h1, h2, h3⟩, up⟩ := hs.upd hi
  refine up (Fr.refl noB h) (fun b hb => hb.elim) (d' := fun b => b ∈ ys.map (·.1)) ⟨hn, fun y hy => h2 y (hm y hy), fun b => Iff.rfl⟩ fun b hb => .inl ((h3 b).2 ?_)
  obtain ⟨y, hy, rfl⟩ := List.mem_map.1 hb
  exact List.mem_map.2 ⟨y, hm y hy, rfl⟩

/-- One of the blocks turns. -/
theorem wsA_set {h h' : H} {Γ : List Asrt} {i k : Nat} {t : TypeId} {xs : List (Nat × List Value)} {x : Nat × List Value} {vs : List Value} (hs : Sat h Γ) (hi : Γ[i]? = some (wsA t xs)) (hk : xs[k]? = some x) (hf : Fr (· = x.1) h h') (hb : Blk h' x.1 t vs) :
    Sat h' (Γ.set i (wsA t (xs.set k (x.1, vs)))) := by
  obtain ⟨d, ⟨h1, h2, h3⟩, up⟩ := hs.upd hi
  have hlt := (List.getElem?_eq_some_iff.1 hk).1
  have he := (List.getElem?_eq_some_iff.1 hk).2
  have e : (xs.set k (x.1, vs)).map (·.1) = xs.map (·.1) := by
    rw [List.map_set]
    refine List.ext_getElem? fun j => ?_
    by_cases hj : k = j
    · subst hj; rw [List.getElem?_set_self (by simpa using hlt), List.getElem?_map, hk]; rfl
    · rw [List.getElem?_set_ne hj]
  have hmem : x ∈ xs := List.mem_of_getElem? hk
  refine up hf (fun b hb => .inl ((h3 b).2 (by rw [hb]; exact List.mem_map.2 ⟨x, hmem, rfl⟩))) (d' := d) ⟨by rw [e]; exact h1, fun y hy => ?_, fun b => by rw [e]; exact h3 b⟩ fun b hb => .inl hb
  obtain ⟨j, hj⟩ := List.getElem?_of_mem hy
  by_cases hjk : k = j
  · subst hjk
    rw [List.getElem?_set_self hlt] at hj
    cases hj
    exact hb
  · rw [List.getElem?_set_ne hjk] at hj
    refine hf.blk (h2 y (List.mem_of_getElem? hj)) fun e2 => hjk ?_
    have hj1 : (xs.map (·.1))[j]? = some y.1 := by rw [List.getElem?_map, hj]; rfl
    have hk1 : (xs.map (·.1))[k]? = some x.1 := by rw [List.getElem?_map, hk]; rfl
    have hkl := (List.getElem?_eq_some_iff.1 hk1).1
    exact (List.getElem?_inj hkl h1).1 (by rw [hk1, hj1, e2])

/-- A new block among them. -/
theorem wsA_add {h : H} {Γ : List Asrt} {i b : Nat} {t : TypeId} {xs ys : List (Nat × List Value)} {vs : List Value} (hs : Sat h (Γ ++ [blkA b t vs])) (hi : Γ[i]? = some (wsA t xs)) (hp : ys.Perm ((b, vs) :: xs)) : Sat h (Γ.set i (wsA t ys)) := by
  have hj := hs.join hi
  have := hj.as (at_set hi) (A' := wsA t ys) fun d hd => by
    obtain ⟨d1, d2, ⟨h1, h2, h3⟩, ⟨h4, h5⟩, h6, h7⟩ := hd
    have hpm := hp.map (·.1)
    refine ⟨hpm.nodup_iff.2 ?_, fun y hy => ?_, fun x => ?_⟩
    · rw [List.map_cons, List.nodup_cons]
      exact ⟨fun hb => h6 b ((h3 b).2 hb) ((h5 b).2 (by simp)), h1⟩
    · rcases List.mem_cons.1 (hp.mem_iff.1 hy) with rfl | hy
      · exact h4
      · exact h2 y hy
    · rw [hpm.mem_iff, List.map_cons, List.mem_cons, h7 x, h3 x, h5 x]
      simp only [List.mem_singleton]
      exact Or.comm
  rwa [List.set_set] at this

section
variable {h : H} {e : TypeId} {size : Nat} {p : Option Addr} {n c : Nat} {xs : List Value}

/-- 'xs[:k]' of an own row. -/
theorem slcTake_of (ho : OwnO h 0 e size p n c xs) {k : Nat} (hk : k ≤ n) {K : Option Addr → Nat → Nat → Prop} (hK : Src h size p k c (xs.take (k * size)) → K p k c) :
    slc p n c size none (some (k : Int)) K := by
  have hle := ho.le
  refine ⟨0, k, rfl, rfl, Nat.zero_le _, by omega, ?_⟩
  have e1 : slcBase p c 0 size = p := by
    unfold slcBase
    split
    · rfl
    · cases p with
      | none => rfl
      | some a => simp [Addr.add]
  rw [e1, Nat.sub_zero, Nat.sub_zero]
  refine hK ⟨?_, ?_⟩
  · have hm : k * size ≤ n * size := Nat.mul_le_mul_right _ hk
    rw [List.length_take, ho.1]; omega
  · rcases ho.2 with ⟨rfl, rfl, rfl⟩ | ⟨g, o, cur, rfl, h1⟩
    · exact .inl ⟨rfl, by omega, rfl⟩
    · refine .inr ⟨_, rfl, fun j u hu => ?_⟩
      have hj := (List.getElem?_eq_some_iff.1 hu).1
      rw [List.length_take] at hj
      rw [List.getElem?_take_of_lt (by omega)] at hu
      rw [add_mk, ho.cell (by rw [← ho.1]; omega)]
      exact hu

/-- 'xs[k:]' of an own row. -/
theorem slcDrop_of (ho : OwnO h 0 e size p n c xs) {k : Nat} (hk : k ≤ n) {K : Option Addr → Nat → Nat → Prop} (hK : ∀ p', Src h size p' (n - k) (c - k) (xs.drop (k * size)) → K p' (n - k) (c - k)) :
    slc p n c size (some (k : Int)) none K := by
  have hle := ho.le
  refine ⟨k, n, rfl, rfl, hk, hle, hK _ ⟨?_, ?_⟩⟩
  · rw [List.length_drop, ho.1, Nat.sub_mul]
  · rcases ho.2 with ⟨rfl, rfl, rfl⟩ | ⟨g, o, cur, rfl, h1⟩
    · obtain rfl : k = 0 := by omega
      exact .inl ⟨rfl, rfl, rfl⟩
    · right
      unfold slcBase
      split
      · refine ⟨_, rfl, fun j u hu => ?_⟩
        have hj := (List.getElem?_eq_some_iff.1 hu).1
        rw [List.length_drop, ho.1] at hj
        have : n * size - k * size = 0 := by
          have : n * size ≤ c * size := Nat.mul_le_mul_right _ hle
          rename_i hck
          rw [← hck]; omega
        omega
      · refine ⟨_, by rw [Option.map_some], fun j u hu => ?_⟩
        have hj := (List.getElem?_eq_some_iff.1 hu).1
        rw [List.length_drop, ho.1] at hj
        rw [List.getElem?_drop] at hu
        rw [add_mk, add_mk, Nat.add_assoc, ho.cell (by omega)]
        exact hu
end

/-- A cell of a row of single cells is written. -/
theorem rowA_store {h : H} {Γ : List Asrt} {i : Nat} {e : TypeId} {p : Option Addr} {n c : Nat} {xs : List Value} {v : Value} (hs : Sat h Γ) (hi : Γ[i]? = some (rowA e 1 p n c xs)) {j : Int} (h0 : 0 ≤ j) (h1 : j < n) {K : H → Prop}
    (hk : ∀ h', Sat h' (Γ.set i (rowA e 1 p n c (xs.set j.toNat v))) → K h') : idx p n j 1 (fun a => stC h (Addr.add a 0) v K) := by
  obtain ⟨d, ⟨ho, hd⟩, up⟩ := hs.upd hi
  have hl := ho.1
  rw [Nat.mul_one] at hl
  rcases ho.2 with ⟨_, _, h2⟩ | ⟨g, o, cur, rfl, q1, q2, q3, q4, q5, q6⟩
  · omega
  · refine idx_of h0 h1 ?_
    simp only [add_mk, Nat.mul_one, Nat.add_zero] at *
    have hb : Blk h g e cur.toList := q2
    refine stC_of hb (by simp; omega) (hk _ (up (S := (· = g)) (d' := d) (Fr.set h ⟨g, o + j.toNat, none⟩ v) (fun b hb => .inl ((hd b).2 ⟨_, rfl, hb⟩)) ⟨?_, hd⟩ fun b hb => .inl hb))
    have hb' := hb.set (o + j.toNat) v
    refine ⟨by simpa using hl, .inr ⟨g, o, ⟨cur.toList.set (o + j.toNat) v⟩, rfl, q1, hb', q3, q4, by simpa using q5, ?_⟩⟩
    have hdl : (cur.toList.set (o + j.toNat) v).drop o = (cur.toList.drop o).set j.toNat v := by
      rw [List.drop_set, if_neg (by omega), Nat.add_sub_cancel_left]
    show ((cur.toList.set (o + j.toNat) v).drop o).take (n * 1) = _
    rw [hdl, List.take_set, Nat.mul_one, q6]

end Go.GLM

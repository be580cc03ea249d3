/-
  Parts of the heap that the collector's objects are (C1): the arena's and the queue's contracts, said of parts.
  The table of shapes (C2).
  The table of shapes on the heap (C3).
  The marker (C4): made, what is left, an object shaded, an object's fields.
  The marker: an object's fields (C5).
  The marker: a step; rows cloned (C6).
  What can be come to, plainly (M2): no program here.
-/
import Derived.Test.YtkfdbgpegekcfaaGreatDoorXc
import Derived.Test.YtkfdbgpegekcfaaGreatDoorXb
import Derived.DeepKeys4

namespace Go.Proofs.YtkfdbgpegekcfaaGreatDoorP
open Go Go.GL Go.GLM Go.Proofs
attribute [local irreducible] rawV rawN rawU

/-- An arena. -/
def arA (A B W : Nat) (a : Ar) : Asrt :=
  onBlks [A, B, W] (fun h => ArO 118 113 2 h A B W a)
    (fun ho _ he => ⟨blk_loc ho.own (he A (by simp)), blk_loc ho.spans (he B (by simp)), blk_loc ho.words (he W (by simp)), ho.ok, ho.ty⟩)
    (fun ho b hb => by
      simp only [List.mem_cons, List.not_mem_nil, or_false] at hb
      rcases hb with rfl | rfl | rfl
      · exact ho.own.lt
      · exact ho.spans.lt
      · exact ho.words.lt)

/-- A queue: its block, its row. -/
def quA (Q : Nat) (xs : List Int) : Asrt where
  sat h d := ∃ p c, Blk h Q 174 [.slice p xs.length c] ∧ OwnO h 0 2 1 p xs.length c (xs.map (Value.int .i64 ·)) ∧ (∀ b, blkOf p b → b ≠ Q) ∧ ∀ b, d b ↔ (b = Q ∨ blkOf p b)
  loc := by
    rintro h h' d ⟨p, c, hb, hr, hne, hd⟩ hl he
    exact ⟨p, c, blk_loc hb (he Q ((hd Q).2 (.inl rfl))), hr.fr (S := fun b => ¬ blkOf p b) ⟨hl, fun b _ hb => he b ((hd b).2 (.inr (Classical.not_not.1 hb)))⟩ (fun b hb hn => hn hb), hne, hd⟩
  bnd := by
    rintro h d ⟨p, c, hb, hr, hne, hd⟩ b hb'
    rcases (hd b).1 hb' with rfl | ⟨a, rfl, rfl⟩
    · exact hb.lt
    · rcases hr.2 with ⟨h0, _⟩ | ⟨g, o, cur, he, h1, h2, _⟩
      · cases h0
      · cases he; exact (Array.getElem?_eq_some_iff.1 h2).1

section
variable {h : H} {Γ : List Asrt} {i : Nat} {A B W : Nat} {a : Ar}

theorem arA_at (hs : Sat h Γ) (hi : Γ[i]? = some (arA A B W a)) : ArO 118 113 2 h A B W a := by
  obtain ⟨d, h1⟩ := hs.at hi
  exact h1.1

/-- The arena's part turns. -/
theorem arA_up (hs : Sat h Γ) (hi : Γ[i]? = some (arA A B W a)) {S : Nat → Prop} {h' : H} {a' : Ar} (hf : Fr S h h') (hS : ∀ b, S b → b = A ∨ b = B ∨ b = W) (ho : ArO 118 113 2 h' A B W a') : Sat h' (Γ.set i (arA A B W a')) := by
  obtain ⟨d, h1, up⟩ := hs.upd hi
  refine up hf (fun b hb => .inl ((h1.2 b).2 ?_)) ⟨ho, h1.2⟩ fun b hb => .inl hb
  simpa using hS b hb

theorem mark_C (hs : Sat h Γ) (hi : Γ[i]? = some (arA A B W a)) {p : Int} {K : Bool → H → Prop} (hno : a.is p = false ∨ a.marked p = true → K false h)
    (hyes : a.is p = true → a.marked p = false → ∀ h', Sat h' (Γ.set i (arA A B W (a.markAt p))) → K true h') : arena_Arena_Mark.C (some ⟨A, 0, none⟩) p h K :=
  arena_Mark_C (arA_at hs hi) hno fun h1 h2 h' hf ho => hyes h1 h2 h' (arA_up hs hi hf (fun b hb => .inr (.inl hb)) ho)

theorem write_C (hs : Sat h Γ) (hi : Γ[i]? = some (arA A B W a)) {p f x : Int} {K : Int → H → Prop} (hno : a.inn p f = false → K 1 h)
    (hyes : a.inn p f = true → ∀ h', Sat h' (Γ.set i (arA A B W (a.put p f x))) → K 0 h') : arena_Arena_Write.C (some ⟨A, 0, none⟩) p f x h K :=
  arena_Write_C (arA_at hs hi) hno fun h1 h' hf ho => hyes h1 h' (arA_up hs hi hf (fun b hb => .inr (.inr hb)) ho)

end

section
variable {h : H} {Γ : List Asrt} {i : Nat} {Q : Nat} {xs : List Int}

theorem left_C (hs : Sat h Γ) (hi : Γ[i]? = some (quA Q xs)) {K : Int → H → Prop} (hk : K (xs.length : Int) h) : grey_Queue_Len.C (some ⟨Q, 0, none⟩) h K := by
  refine grey_Queue_Len.of ?_
  unfold grey_Queue_Len.S
  obtain ⟨d, p, c, hb, _⟩ := hs.at hi
  exact nL hb rfl hk

theorem add_C (hs : Sat h Γ) (hi : Γ[i]? = some (quA Q xs)) {x : Int} (hlen : xs.length ≤ 1000000) {K : H → Prop} (hk : ∀ h', Sat h' (Γ.set i (quA Q (xs ++ [x]))) → K h') : grey_Queue_Add.C (some ⟨Q, 0, none⟩) x h K := by
  refine grey_Queue_Add.of ?_
  unfold grey_Queue_Add.S
  obtain ⟨d, ⟨p, c, hb, hrow, hne, hd⟩, up⟩ := hs.upd hi
  refine nL hb rfl (nW fun g1 f1 hsz b1 => ?_)
  have hb1 := f1.blk hb (fun h => h)
  have hrow1 := hrow.fr f1 (fun _ _ h => h)
  refine appendQ_of ty_words in_word int_one (by decide) hrow1 (by omega) (news := [.int .i64 x]) (m := 1) rfl ?_ (by intro u hu; rw [List.mem_singleton.1 hu]; rfl) (by simp only [maxLen]; omega) (by omega) fun p' c' g2 ho2 f2 hb' => ⟨_, _, _, rfl, ?_⟩
  · intro j u hu
    rw [add_mk, b1.cell, Nat.zero_add]
    exact hu
  · have hb2 := f2.blk hb1 (fun h => hne Q h rfl)
    refine nSt hb2 (by simp) fun g3 f3 hb3 => ?_
    have hne' : ∀ b, blkOf p' b → b ≠ Q := by
      rintro b hbb rfl
      obtain ⟨_, _, cur, h2⟩ := OwnO.blk ho2 hbb
      unfold Blk at hb2
      rw [h2] at hb2
      simp at hb2
    have ho3 := ho2.fr f3 (fun b hbb h => hne' b hbb h)
    refine hk g3 (up (S := fun b => b = Q ∨ blkOf p b) (d' := fun b => b = Q ∨ blkOf p' b) (((f1.mono fun x hx => hx.elim).trans (f2.mono fun x hx => .inr hx)).trans (f3.mono fun x hx => .inl hx)) (fun b hbb => .inl ((hd b).2 hbb))
      ⟨p', c', by rw [List.length_append]; exact hb3, by simpa using ho3, hne', fun b => Iff.rfl⟩ fun b hbb => ?_)
    rcases hbb with h | h
    · exact .inl ((hd b).2 (.inl h))
    · rcases hb' b h with h1 | h1
      · exact .inl ((hd b).2 (.inr h1))
      · exact .inr (by omega)

theorem next_C (hs : Sat h Γ) (hi : Γ[i]? = some (quA Q xs)) {K : Int → Bool → H → Prop} (hnil : xs = [] → K 0 false h)
    (hcons : ∀ x r, xs = x :: r → ∀ h', Sat h' (Γ.set i (quA Q r)) → K x true h') : grey_Queue_Next.C (some ⟨Q, 0, none⟩) h K := by
  refine grey_Queue_Next.of ?_
  unfold grey_Queue_Next.S
  obtain ⟨d, ⟨p, c, hb, hrow, hne, hd⟩, up⟩ := hs.upd hi
  refine nL hb rfl ?_
  cases xs with
  | nil => exact split_true (hnil rfl)
  | cons x r =>
    refine split_neg (beq_eq_false_iff_ne.2 (by simp only [List.length_cons]; omega)) (nL hb rfl ?_)
    rcases hrow.2 with ⟨_, _, h0⟩ | ⟨g, o, cur, rfl, h1, h2, h3, h4, h5, h6⟩
    · simp at h0
    · refine idx_of (by decide) (by simp only [List.length_cons]; omega) ?_
      have hx := hrow.cell (j := 0) (by simp)
      simp only [Nat.add_zero] at hx
      rw [show (0 : Int).toNat * 1 = 0 from rfl, Nat.add_zero]
      refine ldI_of (n := x) (by rw [hx]; rfl) (nL hb rfl ⟨1, (x :: r).length, rfl, rfl, by simp, h3, ?_⟩)
      have hrow' : OwnO h 0 2 1 (some ⟨g, o, none⟩) (r.length + 1) c (Value.int .i64 x :: r.map (Value.int .i64 ·)) := hrow
      have ht := hrow'.tail
      have ht2 : OwnO h 0 2 1 (slcBase (some ⟨g, o, none⟩) c 1 1) r.length (c - 1) (r.map (Value.int .i64 ·)) := by
        unfold slcBase
        by_cases hc : c = 1
        · rw [if_pos hc]
          have : r = [] := by
            rw [hc, List.length_cons] at h3; exact List.length_eq_zero_iff.1 (by omega)
          subst this
          subst hc
          exact ⟨rfl, .inr ⟨g, o, cur, rfl, h1, h2, by simp, by simp, by omega, by simp⟩⟩
        · rw [if_neg hc, Option.map_some, add_mk]
          exact ht
      have hblk : ∀ b, blkOf (slcBase (some ⟨g, o, none⟩) c 1 1) b → b = g := by
        rintro b ⟨ad, ha, rfl⟩
        unfold slcBase at ha
        by_cases hc : c = 1
        · rw [if_pos hc] at ha; cases ha; rfl
        · rw [if_neg hc, Option.map_some, add_mk] at ha; cases ha; rfl
      have hne2 : ∀ b, blkOf (slcBase (some ⟨g, o, none⟩) c 1 1) b → b ≠ Q := fun b hbb => by rw [hblk b hbb]; exact hne g ⟨_, rfl, rfl⟩
      refine nSt hb (by simp) fun h' f3 hb3 => hcons x r rfl h' (up (S := (· = Q)) (d' := fun b => b = Q ∨ blkOf (slcBase (some ⟨g, o, none⟩) c 1 1) b) f3 (fun b hbb => .inl ((hd b).2 (.inl hbb)))
        ⟨_, _, hb3, ht2.fr f3 (fun b hbb h => hne2 b hbb h), hne2, fun b => Iff.rfl⟩ fun b hbb => .inl ((hd b).2 ?_))
      rcases hbb with h | h
      · exact .inl h
      · rw [hblk b h]; exact .inr ⟨_, rfl, rfl⟩

end
end Go.Proofs.YtkfdbgpegekcfaaGreatDoorP

namespace Go.Proofs.YtkfdbgpegekcfaaGreatDoorP
open Go Go.GL Go.GLM Go.Proofs Go.Maps
attribute [local irreducible] rawV rawN rawU

abbrev Shp := Int × Int × Nat
def shV (s : Shp) : Value := .agg #[.int .i64 s.1, .int .i64 s.2.1, .int .u64 (s.2.2 : Int)]
def shC : List Shp → List Value
  | [] => []
  | s :: r => .int .i64 s.1 :: .int .i64 s.2.1 :: .int .u64 (s.2.2 : Int) :: shC r
def shWf (s : Shp) : Prop := (Lit.int .i64 s.1).wf = true ∧ (Lit.int .i64 s.2.1).wf = true ∧ (Lit.int .u64 (s.2.2 : Int)).wf = true

theorem shC_len (l : List Shp) : (shC l).length = l.length * 3 := by
  induction l with
  | nil => rfl
  | cons s r ih => simp only [shC, List.length_cons, ih]; omega

theorem shC_append (l r : List Shp) : shC (l ++ r) = shC l ++ shC r := by
  induction l with
  | nil => rfl
  | cons s l ih => simp only [shC, List.cons_append, ih]

theorem shC_get {l : List Shp} {i : Nat} {s : Shp} (hi : l[i]? = some s) :
    (shC l)[i * 3]? = some (.int .i64 s.1) ∧ (shC l)[i * 3 + 1]? = some (.int .i64 s.2.1) ∧ (shC l)[i * 3 + 2]? = some (.int .u64 (s.2.2 : Int)) := by
  induction l generalizing i with
  | nil => simp at hi
  | cons a r ih =>
    cases i with
    | zero => simp at hi; subst hi; exact ⟨rfl, rfl, rfl⟩
    | succ i =>
      have := ih (i := i) (by simpa using hi)
      rw [show (i + 1) * 3 = i * 3 + 1 + 1 + 1 from by omega]
      exact this

theorem sh_laid : laidOutB Tryz.prog = true := by kernel_rfl
theorem sh_row : (86 : TypeId) < Tryz.prog.types.size := Nat.le_of_ble_eq_true (by kernel_rfl)
theorem sh_deep : Tryz.prog.keyTypeAt 2 86 = true := by kernel_rfl
theorem sh_keyed : Keyed Tryz.prog 86 := Keyed.of_law (deep_law_laid (P := Tryz.prog) (k := 86) sh_laid (m := 2) (by decide) sh_row sh_deep (by rw [Tryz.underlying86]))
theorem sh_keyT : Tryz.prog.keyType 86 = true := by kernel_rfl
theorem sh_cells : Tryz.prog.cellsOf 86 = 3 := by kernel_rfl
theorem sh_int : Tryz.prog.cellsOf 3 = 1 := by kernel_rfl
theorem sh_uint : Tryz.prog.cellsOf 34 = 1 := by kernel_rfl
theorem ty_shmap : Tryz.prog.underlying 154 = some (.map 86 3) := by kernel_rfl
theorem ty_int : Tryz.prog.underlying 3 = some (.int .i64) := by kernel_rfl
theorem ty_u64 : Tryz.prog.underlying 34 = some (.int .u64) := by kernel_rfl
theorem ty_shapes : Tryz.prog.underlying 81 = some (.slice 86) := by kernel_rfl
theorem in_shape : (Tryz.prog.info? 86).map (fun i => (i.zero, i.size, i.bytes)) = some (some (.agg #[.int .i64 0, .int .i64 0, .int .u64 0]), 3, 24) := by kernel_rfl
def shL (s : Shp) : Lit := .string (keyBytes [.int .i64 s.1, .int .i64 s.2.1, .int .u64 (s.2.2 : Int)])

end Go.Proofs.YtkfdbgpegekcfaaGreatDoorP

namespace Go.Proofs.YtkfdbgpegekcfaaGreatDoorP
open Go Go.GL Go.GLM Go.Proofs Go.Maps
attribute [local irreducible] rawV rawN rawU Tryz.prog

theorem shKey_gen {P : Program} {k : TypeId} {f0 f1 f2 : Field} (hu : P.underlying k = some (.struct #[f0, f1, f2])) (hk : P.keyType k = true) (hc : P.cellsOf k = 3) (hpos : 0 < P.types.size)
    (n0 : (f0.name != "_") = true) (n1 : (f1.name != "_") = true) (n2 : (f2.name != "_") = true) (o0 : f0.offset = 0) (o1 : f1.offset = 1) (o2 : f2.offset = 2)
    (u0 : P.underlying f0.type = some (.int .i64)) (u1 : P.underlying f1.type = some (.int .i64)) (u2 : P.underlying f2.type = some (.int .u64)) (c0 : P.cellsOf f0.type = 1) (c1 : P.cellsOf f1.type = 1) (c2 : P.cellsOf f2.type = 1)
    {a b c : Int} (h1 : (Lit.int .i64 a).wf = true) (h2 : (Lit.int .i64 b).wf = true) (h3 : (Lit.int .u64 c).wf = true) :
    keyOf P k (.agg #[.int .i64 a, .int .i64 b, .int .u64 c]) = some (.string (keyBytes [.int .i64 a, .int .i64 b, .int .u64 c])) := by
  obtain ⟨m, hm⟩ : ∃ m, P.types.size = m + 1 := ⟨P.types.size - 1, by omega⟩
  unfold keyOf
  rw [hu]
  simp only [hk, Bool.true_and, Value.formed, hu, hc, hm, Program.keyLits, Value.cells]
  simp at n0 n1 n2
  simp [u0, u1, u2, c0, c1, c2, h1, h2, h3, n0, n1, n2, o0, o1, o2]

theorem sh_key {s : Shp} (hw : shWf s) : keyOf Tryz.prog 86 (shV s) = some (shL s) :=
  shKey_gen Tryz.underlying86 sh_keyT sh_cells (Nat.lt_of_le_of_lt (Nat.zero_le _) sh_row) (by decide) (by decide) (by decide) rfl rfl rfl ty_int ty_int ty_u64 sh_int sh_int sh_uint hw.1 hw.2.1 hw.2.2

theorem shV_inj {s s' : Shp} (h : shV s = shV s') : s = s' := by
  simp [shV] at h
  obtain ⟨a, b, c⟩ := s
  obtain ⟨a', b', c'⟩ := s'
  simp only at h
  simp [h]
  omega

theorem shL_inj {s s' : Shp} (hw : shWf s) (hw' : shWf s') (h : shL s = shL s') : s = s' :=
  shV_inj (sh_keyed.inj (sh_key hw) (h ▸ sh_key hw'))

theorem shL_key {s : Shp} (hw : shWf s) : WideAt.IsKeyLit (shL s) := sh_keyed.key (sh_key hw)

/-- What the map of a table reads as. -/
def tabD (ts : List Shp) : DataW Unit := ts.zipIdx.foldl (fun m p => m.put (shL p.1) (.lit (.int .i64 (p.2 : Nat)))) (.map [])

theorem tabD_snoc (ts : List Shp) (s : Shp) : tabD (ts ++ [s]) = (tabD ts).put (shL s) (.lit (.int .i64 (ts.length : Nat))) := by
  unfold tabD
  rw [List.zipIdx_append, List.foldl_append]
  simp

theorem tabD_map (ts : List Shp) : IsMap (tabD ts) := by
  revert ts
  refine snoc_ind isMap_empty fun l x ih => ?_
  rw [tabD_snoc]
  exact ih.put _ _

theorem tabD_has {s : Shp} (hs : shWf s) : ∀ ts : List Shp, (∀ x ∈ ts, shWf x) → has (tabD ts) (shL s) = decide (s ∈ ts) := by
  refine snoc_ind (fun _ => rfl) fun l x ih hw => ?_
  rw [tabD_snoc]
  by_cases e : x = s
  · subst e
    rw [has_put_same (tabD_map l) (shL_key hs)]
    simp
  · rw [has_put_other (fun h => e (shL_inj (hw x (by simp)) hs h.symm)), ih fun y hy => hw y (by simp [hy])]
    simp
    exact fun h => absurd h.symm e

theorem tabD_at {s : Shp} (hs : shWf s) (z : DataW Unit) : ∀ ts : List Shp, (∀ x ∈ ts, shWf x) → ts.Nodup → ∀ j, ts[j]? = some s → (tabD ts).atKey (shL s) z = .lit (.int .i64 (j : Nat)) := by
  refine snoc_ind (fun _ _ j hj => by simp at hj) fun l x ih hw hn j hj => ?_
  rw [tabD_snoc]
  rw [List.nodup_append] at hn
  by_cases e : x = s
  · subst e
    rw [atKey_put_same (tabD_map l) (shL_key hs)]
    by_cases hjl : j < l.length
    · rw [List.getElem?_append_left hjl] at hj
      exact absurd rfl (hn.2.2 x (List.mem_of_getElem? hj) x (by simp))
    · have := (List.getElem?_eq_some_iff.1 hj).1
      simp at this
      rw [show j = l.length from by omega]
  · rw [atKey_put_other (fun h => e (shL_inj (hw x (by simp)) hs h.symm))]
    refine ih (fun y hy => hw y (by simp [hy])) hn.1 j ?_
    by_cases hjl : j < l.length
    · rwa [List.getElem?_append_left hjl] at hj
    · have := (List.getElem?_eq_some_iff.1 hj).1
      simp at this
      rw [show j = l.length from by omega] at hj
      simp at hj
      exact absurd hj e

/-- A table: its block, its shapes' row, its map. -/
def tbA (T : Nat) (ts : List Shp) : Asrt where
  sat h d := ∃ p c r, Blk h T 156 [.slice p ts.length c, .map (some r)] ∧ OwnO h 0 86 3 p ts.length c (shC ts) ∧ MapO h Tryz.prog 86 (plainElem Tryz.prog 3) r ts.length (tabD ts) ∧ (∀ x ∈ ts, shWf x) ∧ ts.Nodup
    ∧ (∀ b, blkOf p b → b ≠ T) ∧ ∀ b, d b ↔ (b = T ∨ blkOf p b ∨ b = r)
  loc := by
    rintro h h' d ⟨p, c, r, hb, hr, hm, hw, hnd, hne, hd⟩ hl he
    exact ⟨p, c, r, blk_loc hb (he T ((hd T).2 (.inl rfl))), hr.fr (S := fun b => ¬ blkOf p b) ⟨hl, fun b _ hb => he b ((hd b).2 (.inr (.inl (Classical.not_not.1 hb))))⟩ (fun b hb hn => hn hb), hm.loc (he r ((hd r).2 (.inr (.inr rfl)))), hw, hnd, hne, hd⟩
  bnd := by
    rintro h d ⟨p, c, r, hb, hr, hm, hw, hnd, hne, hd⟩ b hb'
    rcases (hd b).1 hb' with rfl | h1 | rfl
    · exact hb.lt
    · exact (OwnO.blk hr h1).2.1
    · exact hm.lt

theorem head_New_C {h : H} {Γ : List Asrt} (hs : Sat h Γ) {K : Option Addr → H → Prop} (hk : ∀ h' T, Sat h' (Γ ++ [tbA T []]) → K (some ⟨T, 0, none⟩) h') : head_New.C h K := by
  refine head_New.of ?_
  unfold head_New.S
  refine makeMap_of (k := 86) (R := plainElem Tryz.prog 3) fun h1 f1 s1 hm => ⟨_, rfl, nW fun h2 f2 s2 b2 => ?_⟩
  refine hk h2 _ (hs.new (f1.trans f2) (d := fun b => b = h1.size ∨ b = h.size) ⟨none, 0, h.size, b2, OwnO.nil _ _ _ _, ?_, by simp, List.nodup_nil, ?_, ?_⟩ ?_)
  · exact hm.loc (f2.2 _ s1 fun h => h)
  · rintro b ⟨a, ha, _⟩; cases ha
  · intro b
    constructor
    · rintro (h | h)
      · exact .inl h
      · exact .inr (.inr h)
    · rintro (h | ⟨a, ha, _⟩ | h)
      · exact .inl h
      · cases ha
      · exact .inr h
  · rintro b (h | h)
    · rw [h]; exact f1.1
    · omega

theorem shape_at {s : Shp} {h : H} {p : Option Addr} {ts : List Shp} {c : Nat} (hr : OwnO h 0 86 3 p ts.length c (shC ts)) {j : Nat} (hj : ts[j]? = some s) : ∃ g o, p = some ⟨g, o, none⟩ ∧
    cell h ⟨g, o + j * 3, none⟩ = some (.int .i64 s.1) ∧ cell h ⟨g, o + j * 3 + 1, none⟩ = some (.int .i64 s.2.1) ∧ cell h ⟨g, o + j * 3 + 2, none⟩ = some (.int .u64 (s.2.2 : Int)) := by
  have hlt := (List.getElem?_eq_some_iff.1 hj).1
  obtain ⟨e1, e2, e3⟩ := shC_get hj
  rcases hr.2 with ⟨_, _, h0⟩ | ⟨g, o, cur, he, _⟩
  · omega
  · subst he
    refine ⟨g, o, rfl, ?_, ?_, ?_⟩
    · rw [hr.cell (j := j * 3) (by omega)]; exact e1
    · rw [Nat.add_assoc, hr.cell (j := j * 3 + 1) (by omega)]; exact e2
    · rw [Nat.add_assoc, hr.cell (j := j * 3 + 2) (by omega)]; exact e3

theorem head_Shape_C {h : H} {Γ : List Asrt} {i T : Nat} {ts : List Shp} (hs : Sat h Γ) (hi : Γ[i]? = some (tbA T ts)) {x : Int} {K : Int → Int → Int → Int → H → Prop}
    (hno : (x < 0 ∨ (ts.length : Int) ≤ x) → ∀ h', Fr noB h h' → K 0 0 0 4 h') (hyes : ∀ s : Shp, 0 ≤ x → ts[x.toNat]? = some s → ∀ h', Fr noB h h' → K s.1 s.2.1 (s.2.2 : Int) 0 h') :
    head_Table_Shape.C (some ⟨T, 0, none⟩) x h K := by
  refine head_Table_Shape.of ?_
  unfold head_Table_Shape.S joinP
  obtain ⟨d, p, c, r, hb, hr, _⟩ := hs.at hi
  have out : ∀ {h1 : H} {b : Nat} {v0 v1 v2 : Int}, Fr noB h h1 → h.size ≤ b → Blk h1 b 86 [.int .i64 v0, .int .i64 v1, .int .u64 v2] → ∀ {w0 w1 w2 e : Int}, (∀ h', Fr noB h h' → K w0 w1 w2 e h') →
      stC h1 (Addr.add ⟨b, 0, none⟩ 0) (.int .i64 w0) (fun h12 => stC h12 (Addr.add ⟨b, 0, none⟩ 1) (.int .i64 w1) (fun h13 => stC h13 (Addr.add ⟨b, 0, none⟩ 2) (.int .u64 w2) (fun h14 => ldI h14 (Addr.add ⟨b, 0, none⟩ 0) .i64 (fun n15 => ldI h14 (Addr.add ⟨b, 0, none⟩ 1) .i64 (fun n16 => ldI h14 (Addr.add ⟨b, 0, none⟩ 2) .u64 (fun n17 => K n15 n16 n17 e h14)))))) := by
    intro h1 b v0 v1 v2 f1 hlt b1 w0 w1 w2 e hK
    refine sT b1 (by simp) fun h2 f2 b2 => sT b2 (by simp) fun h3 f3 b3 => sT b3 (by simp) fun h4 f4 b4 => lI b4 rfl (lI b4 rfl (lI b4 rfl (hK h4 ?_)))
    have f := (f2.trans f3).trans f4
    exact f1.since f fun x hx => .inr (by omega)
  refine nW fun h1 f1 s1 b1 => split_of (fun h2 => ?_) fun h2 => ?_
  · simp at h2
    exact out f1 (Nat.le_refl _) b1 (hno (.inl h2))
  · simp at h2
    have hb1 := f1.blk hb (fun h => h)
    have hr1 := hr.fr f1 (fun _ _ h => h)
    refine nL hb1 rfl (split_of (fun h3 => ?_) fun h3 => ?_)
    · simp at h3
      exact out f1 (Nat.le_refl _) b1 (hno (.inr h3))
    · simp at h3
      have hlt : x.toNat < ts.length := by omega
      obtain ⟨g, o, rfl, e1, e2, e3⟩ := shape_at (s := ts[x.toNat]) hr1 (j := x.toNat) (by simp [hlt])
      refine nL hb1 rfl (idx_of h2 h3 ?_)
      simp only [add_mk, Nat.add_zero]
      refine ldI_of e1 (ldI_of e2 (ldI_of e3 ?_))
      have := out f1 (Nat.le_refl _) b1 (hyes ts[x.toNat] h2 (by simp [hlt]))
      simpa using this

theorem in_int : (Tryz.prog.info? 3).map (fun i => (i.zero, i.size, i.bytes)) = some (some (.int .i64 0), 1, 8) := by kernel_rfl

theorem zero_int (w : World) : (zeroValue 3).run Tryz.prog w = .ok (.int .i64 0) w := by
  obtain ⟨i, hi, hzz⟩ := Option.map_eq_some_iff.1 in_int
  simp only [Prod.mk.injEq] at hzz
  simp [zeroValue, typeInfo, hi, hzz.1]

theorem head_Number_C {h : H} {Γ : List Asrt} {i T : Nat} {ts : List Shp} (hs : Sat h Γ) (hi : Γ[i]? = some (tbA T ts)) {s : Shp} (hw : shWf s) (hm : s.2.2 < 2 ^ 64) {K : Int → Int → H → Prop}
    (hbad : goodSh s.1 s.2.1 s.2.2 = false → ∀ h', Sat h' Γ → K 0 1 h') (hold : ∀ j, goodSh s.1 s.2.1 s.2.2 = true → ts[j]? = some s → ∀ h', Sat h' Γ → K (j : Nat) 0 h')
    (hfull : s ∉ ts → ts.length = 65536 → ∀ h', Sat h' Γ → K 0 2 h')
    (hnew : goodSh s.1 s.2.1 s.2.2 = true → s ∉ ts → ts.length ≠ 65536 → ∀ h', Sat h' (Γ.set i (tbA T (ts ++ [s]))) → K (ts.length : Nat) 0 h') (hroom : ts.length ≤ 65536) :
    head_Table_Number.C (some ⟨T, 0, none⟩) s.1 s.2.1 (s.2.2 : Int) h K := by
  refine head_Table_Number.of ?_
  unfold head_Table_Number.S
  refine nW fun g1 f1 s1 b1 => lI b1 rfl (lI b1 rfl (lI b1 rfl (head_Good_C hm fun g2 f2 => ?_)))
  have f12 := f1.trans f2
  refine split_of (fun h1 => ?_) fun h1 => ?_
  · exact hbad (by simpa using h1) g2 (hs.fr f12)
  have hgood : goodSh s.1 s.2.1 s.2.2 = true := by simpa using h1
  have hs2 := hs.fr f12
  have b2 := f2.blk b1 (fun h => h)
  obtain ⟨d, ⟨p, c, r, hb, hr, hmap, hwf, hnd, hne, hd⟩, up⟩ := hs2.upd hi
  refine nM hb rfl (lI b2 rfl (lI b2 rfl (lI b2 rfl ?_)))
  refine rawV_run fun w hw' => ?_
  obtain ⟨v, ps, hrun, hv⟩ := (hmap.to w hw').look_ok sh_keyed ty_shmap (zero_int w) (plainElem_int ty_int (by decide)) (sh_key hw)
  have hrun' : (Instr.lookup 154 (.map (some r)) (.agg #[.int .i64 s.1, .int .i64 s.2.1, .int .u64 (s.2.2 : Int)]) true).run Tryz.prog w = .ok (.tuple #[v, .bool (has (tabD ts) (shL s))]) w := hrun
  rw [tabD_has hw ts hwf] at hrun'
  refine ⟨_, _, hrun', Same.refl _, ?_⟩
  obtain ⟨n, rfl, hn, _⟩ := plainElem_int_inv ty_int hv
  rw [hw']
  refine ⟨_, _, rfl, n, rfl, _, rfl, split_of (fun h2 => ?_) fun h2 => ?_⟩
  · have hmem : s ∈ ts := of_decide_eq_true h2
    obtain ⟨j, hj⟩ := List.getElem?_of_mem hmem
    simp only [Prod.mk.injEq] at hn
    rw [tabD_at hw _ ts hwf hnd j hj] at hn
    have : n = (j : Nat) := by simpa using hn.1.symm
    subst this
    exact hold j hgood hj g2 hs2
  · have hmem : s ∉ ts := of_decide_eq_false h2
    refine nL hb rfl (split_of (fun h3 => ?_) fun h3 => ?_)
    · exact hfull hmem (by simp at h3; omega) g2 hs2
    have hlen : ts.length ≠ 65536 := by simp at h3; omega
    refine nilC_of (nilC_of (lM hb rfl (lI b2 rfl (lI b2 rfl (lI b2 rfl (lL hb rfl ?_))))))
    refine rawU_run fun w2 hw2 => ?_
    obtain ⟨w3, hrun3, hown3, hg3⟩ := (hmap.to w2 hw2).update sh_keyed ty_shmap (by simp only [maxLen]; omega) (sh_key hw) (plainElem_int ty_int (a := ((ts.length : Nat) : Int)) (wfI (by omega) (by omega)))
    have hrun3' : (Instr.mapUpdate 154 (.map (some r)) (.agg #[.int .i64 s.1, .int .i64 s.2.1, .int .u64 (s.2.2 : Int)]) (.int .i64 ((ts.length : Nat) : Int))).run Tryz.prog w2 = .ok () w3 := hrun3
    refine ⟨_, hrun3', ⟨hg3.tape, hg3.os, hg3.output⟩, ?_⟩
    have f3 : Fr (· = r) g2 w3.heap := by
      rw [← hw2]
      exact ⟨hg3.size, fun b hb hn => hg3.block b hb fun e => hn (Option.some.inj e)⟩
    rw [← tabD_snoc] at hown3
    have m3 : MapO w3.heap Tryz.prog 86 (plainElem Tryz.prog 3) r (ts.length + 1) (tabD (ts ++ [s])) := ⟨w3, rfl, hown3⟩
    have hrT : r ≠ T := hmap.ne hb
    have hrp : ∀ b, blkOf p b → b ≠ r := fun b hb => by
      obtain ⟨_, _, cur, hc⟩ := OwnO.blk hr hb
      exact (hmap.ne hc).symm
    have hsz2 := hmap.lt
    have hbs : h.size < r ∨ r < h.size ∨ r = h.size := by omega
    have hr1 : r ≠ h.size := hmap.ne b2
    generalize w3.heap = g3 at *
    have hb3 := f3.blk hb hrT.symm
    have b3 := f3.blk b2 (fun e => hr1 e.symm)
    have hr3 := hr.fr f3 (fun b hb => hrp b hb)
    refine nL hb3 rfl (lI b3 rfl (lI b3 rfl (lI b3 rfl (nW fun g4 f4 s4 b4 => ?_))))
    have hb4 := f4.blk hb3 (fun h => h)
    have hr4 := hr3.fr f4 (fun _ _ h => h)
    have m4 := m3.loc (f4.2 _ m3.lt fun h => h)
    refine need_of (lL hb4 rfl rfl) ?_
    refine appendQ_of ty_shapes in_shape rfl (by decide) hr4 (by omega) (news := [.int .i64 s.1, .int .i64 s.2.1, .int .u64 (s.2.2 : Int)]) (m := 1) rfl ?_ (by intro u hu; simp at hu; rcases hu with rfl | rfl | rfl <;> rfl) (by simp only [maxLen]; omega) (by omega) fun p' c' g5 ho5 f5 hb5' => ⟨_, _, _, rfl, ?_⟩
    · intro j u hu
      rw [add_mk, b4.cell, Nat.zero_add]
      exact hu
    have hb5 := f5.blk hb4 (fun h => hne T h rfl)
    have m5 := m4.loc (f5.2 _ m4.lt fun h => hrp r h rfl)
    have hne5 : ∀ b, blkOf p' b → b ≠ T := by
      rintro b hbb rfl
      obtain ⟨_, _, cur, h2⟩ := OwnO.blk ho5 hbb
      unfold Blk at hb5
      rw [h2] at hb5
      simp at hb5
    refine nSt hb5 (by simp) fun g6 f6 hb6 => nL hb6 rfl ?_
    have ho6 := ho5.fr f6 (fun b hbb h => hne5 b hbb h)
    have m6 := m5.loc (f6.2 _ m5.lt fun h => hrT h)
    rw [wrap64_id (by omega) (by omega), show (((ts.length + 1 : Nat) : Int) - 1) = ((ts.length : Nat) : Int) from by omega]
    refine hnew hgood hmem hlen g6 (up (S := fun b => b = r ∨ blkOf p b ∨ b = T) (d' := fun b => b = T ∨ blkOf p' b ∨ b = r)
      ((((f3.mono fun x hx => .inl hx).trans (f4.mono fun x hx => hx.elim)).trans (f5.mono fun x hx => .inr (.inl hx))).trans (f6.mono fun x hx => .inr (.inr hx))) ?_
      ⟨p', c', r, by rw [List.length_append]; exact hb6, by rw [List.length_append, shC_append]; exact ho6, by rw [List.length_append]; exact m6, ?_, ?_, hne5, fun b => Iff.rfl⟩ ?_)
    · rintro b (h | h | h)
      · exact .inl ((hd b).2 (.inr (.inr h)))
      · exact .inl ((hd b).2 (.inr (.inl h)))
      · exact .inl ((hd b).2 (.inl h))
    · intro x hx
      rcases List.mem_append.1 hx with h | h
      · exact hwf x h
      · rw [List.mem_singleton.1 h]; exact hw
    · rw [List.nodup_append]
      exact ⟨hnd, by simp, fun a ha b hb => by rw [List.mem_singleton.1 hb]; rintro rfl; exact hmem ha⟩
    · rintro b (h | h | h)
      · exact .inl ((hd b).2 (.inl h))
      · rcases hb5' b h with h1 | h1
        · exact .inl ((hd b).2 (.inr (.inl h1)))
        · have := f3.1; have := f4.1; exact .inr (by omega)
      · exact .inl ((hd b).2 (.inr (.inr h)))

end Go.Proofs.YtkfdbgpegekcfaaGreatDoorP

namespace Go.Proofs.YtkfdbgpegekcfaaGreatDoorP
open Go Go.GL Go.GLM Go.Proofs Go.Maps
attribute [local irreducible] rawV rawN rawU Tryz.prog

/-- Where a marker's parts stand, and its blocks. -/
structure MkP where
  (ia it im iq A B W T M Q : Nat)

def mkV (m : MkP) : List Value := [.pointer (some ⟨m.A, 0, none⟩), .pointer (some ⟨m.T, 0, none⟩), .pointer (some ⟨m.Q, 0, none⟩)]

/-- A marker's parts are among the heap's. -/
structure MkAt (Γ : List Asrt) (m : MkP) (a : Ar) (ts : List Shp) (xs : List Int) : Prop where
  ar : Γ[m.ia]? = some (arA m.A m.B m.W a)
  tb : Γ[m.it]? = some (tbA m.T ts)
  ob : Γ[m.im]? = some (blkA m.M 99 (mkV m))
  qu : Γ[m.iq]? = some (quA m.Q xs)
  ne : m.ia ≠ m.it ∧ m.ia ≠ m.im ∧ m.ia ≠ m.iq ∧ m.it ≠ m.iq ∧ m.im ≠ m.iq

def MkP.put (m : MkP) (Γ : List Asrt) (a : Ar) (xs : List Int) : List Asrt := (Γ.set m.ia (arA m.A m.B m.W a)).set m.iq (quA m.Q xs)

section
variable {h : H} {Γ Δ : List Asrt} {m : MkP} {a a' : Ar} {ts : List Shp} {xs xs' : List Int}

theorem MkAt.app (hm : MkAt Γ m a ts xs) : MkAt (Γ ++ Δ) m a ts xs := ⟨at_app hm.ar, at_app hm.tb, at_app hm.ob, at_app hm.qu, hm.ne⟩
theorem MkAt.put (hm : MkAt Γ m a ts xs) : MkAt (m.put Γ a' xs') m a' ts xs' := by
  obtain ⟨h1, h2, h3, h4, n1, n2, n3, n4, n5⟩ := hm
  unfold MkP.put
  exact ⟨at_ne (at_set h1) n3.symm, at_ne (at_ne h2 n1) n4.symm, at_ne (at_ne h3 n2) n5.symm, at_set (at_ne h4 n3), n1, n2, n3, n4, n5⟩
theorem MkAt.put_id (hm : MkAt Γ m a ts xs) : m.put Γ a xs = Γ := by
  unfold MkP.put
  rw [set_id hm.ar, set_id hm.qu]
theorem MkAt.put_put (hm : MkAt Γ m a ts xs) {a1 : Ar} {xs1 : List Int} : m.put (m.put Γ a1 xs1) a' xs' = m.put Γ a' xs' := by
  unfold MkP.put
  rw [List.set_comm _ _ (fun e => hm.ne.2.2.1 e.symm), List.set_set, List.set_set]
theorem MkAt.put_app (hm : MkAt Γ m a ts xs) : m.put (Γ ++ Δ) a' xs' = m.put Γ a' xs' ++ Δ := by
  unfold MkP.put
  rw [set_app hm.ar, set_app (at_ne hm.qu hm.ne.2.2.1)]
theorem MkAt.put_ar (hm : MkAt Γ m a ts xs) : Γ.set m.ia (arA m.A m.B m.W a') = m.put Γ a' xs := by
  unfold MkP.put
  rw [set_id (at_ne hm.qu hm.ne.2.2.1)]
theorem MkAt.put_qu (hm : MkAt Γ m a ts xs) : Γ.set m.iq (quA m.Q xs') = m.put Γ a xs' := by
  unfold MkP.put
  rw [set_id hm.ar]

theorem MkAt.at (hs : Sat h Γ) (hm : MkAt Γ m a ts xs) : Blk h m.M 99 (mkV m) := blkA_at hs hm.ob

theorem mark_Left_C (hs : Sat h Γ) (hm : MkAt Γ m a ts xs) {K : Int → H → Prop} (hk : K (xs.length : Int) h) : mark_Marker_Left.C (some ⟨m.M, 0, none⟩) h K := by
  refine mark_Marker_Left.of ?_
  unfold mark_Marker_Left.S
  exact nP (hm.at hs) rfl (left_C hs hm.qu hk)

/-- The address' object can be shaded. -/
def Ar.white (a : Ar) (p : Int) : Bool := a.is p && !a.marked p
def shA (a : Ar) (p : Int) : Ar := if a.white p then a.markAt p else a
def shQ (a : Ar) (xs : List Int) (p : Int) : List Int := if a.white p then xs ++ [p] else xs

theorem mark_Shade_C (hs : Sat h Γ) (hm : MkAt Γ m a ts xs) (hlen : xs.length ≤ 1000000) {p : Int} {K : Bool → H → Prop} (hk : ∀ h', Sat h' (m.put Γ (shA a p) (shQ a xs p)) → K (a.white p) h') :
    mark_Marker_Shade.C (some ⟨m.M, 0, none⟩) p h K := by
  refine mark_Marker_Shade.of ?_
  unfold mark_Marker_Shade.S
  unfold shA shQ at hk
  refine nP (hm.at hs) rfl (mark_C hs hm.ar (fun h1 => ?_) fun h1 h2 h' hs' => ?_)
  · have hw : a.white p = false := by
      unfold Ar.white
      rcases h1 with h1 | h1 <;> simp [h1]
    rw [hw, if_neg (by decide), if_neg (by decide), hm.put_id] at hk
    exact split_true (hk h hs)
  · have hw : a.white p = true := by unfold Ar.white; rw [h1, h2]; rfl
    rw [hw, if_pos rfl, if_pos rfl] at hk
    rw [hm.put_ar (a' := a.markAt p)] at hs'
    have hm' : MkAt (m.put Γ (a.markAt p) xs) m (a.markAt p) ts xs := hm.put
    refine split_false (nP (hm'.at hs') rfl (add_C hs' hm'.qu hlen fun h2 hs2 => hk h2 ?_))
    rw [hm'.put_qu, hm.put_put] at hs2
    exact hs2

/-- The value of a field as Read gives it. -/
def Ar.rd (a : Ar) (p f : Int) : Int := if a.inn p f then a.word p f else 0

/-- The addresses that an object's fields hold, by its shape, from some field on. -/
def fieldL (a : Ar) (s : Shp) (p w : Int) : Nat → List Int
  | 0 => []
  | k + 1 => fieldL a s p w k ++ (if holdSh s.1 s.2.2 k w && a.rd p (k + 1) != 0 then [a.rd p (k + 1)] else [])

/-- An object's addresses. -/
def fieldsOf (a : Ar) (ts : List Shp) (p : Int) : List Int :=
  if a.inn p 0 && hdOk (a.word p 0) && decide (hdW (a.word p 0) ≤ wds (a.clsAt (spn p))) then
    match ts[(hdS (a.word p 0)).toNat]? with
    | some s => fieldL a s p (hdW (a.word p 0)) (hdW (a.word p 0) - 1).toNat
    | none => []
  else []

theorem fieldL_len (a : Ar) (s : Shp) (p w : Int) (k : Nat) : (fieldL a s p w k).length ≤ k := by
  induction k with
  | zero => simp [fieldL]
  | succ k ih =>
    simp only [fieldL, List.length_append]
    split
    · simp; omega
    · simp; omega

end
end Go.Proofs.YtkfdbgpegekcfaaGreatDoorP

namespace Go.Proofs.YtkfdbgpegekcfaaGreatDoorP
open Go Go.GL Go.GLM Go.Proofs Go.Maps
attribute [local irreducible] rawV rawN rawU Tryz.prog

theorem src_one {h : H} {b : Nat} {t : TypeId} {v : Value} (hb : Blk h b t [v]) : Src h 1 (some ⟨b, 0, none⟩) 1 1 [v] :=
  ⟨rfl, .inr ⟨_, rfl, fun j u hu => by rw [add_mk, hb.cell, Nat.zero_add]; exact hu⟩⟩

section
variable {h : H} {Γ Δ : List Asrt} {m : MkP} {a a' : Ar} {ts : List Shp} {xs xs' : List Int}

theorem arA_rd {p f : Int} (hs : Sat h Γ) {i A B W : Nat} (hi : Γ[i]? = some (arA A B W a)) {K : Int → Int → H → Prop} (hk : K (a.rd p f) (if a.inn p f then 0 else 1) h) : arena_Arena_Read.C (some ⟨A, 0, none⟩) p f h K := by
  unfold Ar.rd at hk
  refine arena_Read_C (arA_at hs hi) (fun h1 => ?_) fun h1 => ?_
  · rw [h1] at hk; exact hk
  · rw [h1] at hk; exact hk

theorem fields_loop {g : H} {w hk hs_ : Int} {b1 b2 : Nat} {s : Shp} {p : Int} (hs : Sat g (Γ ++ [blkA b1 95 [.int .i64 w, .int .i64 hk, .int .i64 hs_], blkA b2 86 [.int .i64 s.1, .int .i64 s.2.1, .int .u64 (s.2.2 : Int)], rowA 2 1 none 0 0 []]))
    (hm : MkAt Γ m a ts xs) (hw : 1 ≤ w ∧ w ≤ 64) (hsm : s.2.2 < 2 ^ 64) {K : Option Addr → Nat → Nat → H → Prop}
    (hK : ∀ h' q c, Sat h' (Γ ++ [rowA 2 1 q (fieldL a s p w (w - 1).toNat).length c ((fieldL a s p w (w - 1).toNat).map (Value.int .i64 ·))]) → K q (fieldL a s p w (w - 1).toNat).length c h') :
    loopT (σ := (Int × ((Option Addr × (Nat × Nat)) × Unit))) (fun J46 s47 h48 => split (decide (s47.1 < (IntKind.wrap .i64 (w - 1)))) (joinP (fun (p49 : Option Addr) (k50 : Nat) (k51 : Nat) (h52 : H) => J46 ((IntKind.wrap .i64 (s47.1 + 1)), ((p49, (k50, k51)), ())) h52) (fun J53 => nilC (some ⟨m.M, 0, none⟩) (fun a54 => ldP h48 (Addr.add a54 0) (fun p55 => arena_Arena_Read.C p55 p (IntKind.wrap .i64 (s47.1 + 1)) h48 (fun n60 n61 h57 => ldI h57 (Addr.add ⟨b2, 0, none⟩ 0) .i64 (fun n62 => ldI h57 (Addr.add ⟨b2, 0, none⟩ 1) .i64 (fun n63 => ldI h57 (Addr.add ⟨b2, 0, none⟩ 2) .u64 (fun n64 => ldI h57 (Addr.add ⟨b1, 0, none⟩ 0) .i64 (fun n65 => head_Shape_Holds.C n62 n63 n64 s47.1 n65 h57 (fun b68 h67 => split b68 (split (n60 != 0) (newC h67 [(.int .i64 n60)] 2 (fun a69 h70 => rawN Tryz.prog (builtin .append #[28, 28] 28 #[false, false] #[(.slice s47.2.1.1 s47.2.1.2.1 s47.2.1.2.2), (.slice (some a69) 1 1)]) h70 (fun v71 h72 => exL v71 (fun p73 k74 k75 => J53 p73 k74 k75 h72)))) (J53 s47.2.1.1 s47.2.1.2.1 s47.2.1.2.2 h67)) (J53 s47.2.1.1 s47.2.1.2.1 s47.2.1.2.2 h67))))))))))) (K s47.2.1.1 s47.2.1.2.1 s47.2.1.2.2 h48)) (0, ((none, (0, 0)), ())) g := by
  unfold joinP
  refine loop_of (fun t h' => 0 ≤ t.1 ∧ t.1 ≤ w - 1 ∧ ∃ q c, t.2.1 = (q, ((fieldL a s p w t.1.toNat).length, c)) ∧
    Sat h' (Γ ++ [blkA b1 95 [.int .i64 w, .int .i64 hk, .int .i64 hs_], blkA b2 86 [.int .i64 s.1, .int .i64 s.2.1, .int .u64 (s.2.2 : Int)], rowA 2 1 q (fieldL a s p w t.1.toNat).length c ((fieldL a s p w t.1.toNat).map (Value.int .i64 ·))]))
    (fun t _ => (w - 1 - t.1).toNat) ⟨by simp, by simp; omega, none, 0, rfl, hs⟩ ?_
  rintro ⟨k, ⟨q, n, c⟩, _⟩ h' ⟨h0, h1, q', c', he, hs'⟩
  simp only [Prod.mk.injEq] at he
  obtain ⟨rfl, rfl, rfl⟩ := he
  simp only at h0 h1 hs' ⊢
  rw [wrap64_id (by omega) (by omega)]
  have e0 : (Γ ++ [blkA b1 95 [.int .i64 w, .int .i64 hk, .int .i64 hs_], blkA b2 86 [.int .i64 s.1, .int .i64 s.2.1, .int .u64 (s.2.2 : Int)], rowA 2 1 q (fieldL a s p w k.toNat).length c ((fieldL a s p w k.toNat).map (Value.int .i64 ·))])[Γ.length + 0]? = some (blkA b1 95 [.int .i64 w, .int .i64 hk, .int .i64 hs_]) := at_end
  have e1 : (Γ ++ [blkA b1 95 [.int .i64 w, .int .i64 hk, .int .i64 hs_], blkA b2 86 [.int .i64 s.1, .int .i64 s.2.1, .int .u64 (s.2.2 : Int)], rowA 2 1 q (fieldL a s p w k.toNat).length c ((fieldL a s p w k.toNat).map (Value.int .i64 ·))])[Γ.length + 1]? = some (blkA b2 86 [.int .i64 s.1, .int .i64 s.2.1, .int .u64 (s.2.2 : Int)]) := at_end
  have e2 : (Γ ++ [blkA b1 95 [.int .i64 w, .int .i64 hk, .int .i64 hs_], blkA b2 86 [.int .i64 s.1, .int .i64 s.2.1, .int .u64 (s.2.2 : Int)], rowA 2 1 q (fieldL a s p w k.toNat).length c ((fieldL a s p w k.toNat).map (Value.int .i64 ·))])[Γ.length + 2]? = some (rowA 2 1 q (fieldL a s p w k.toNat).length c ((fieldL a s p w k.toNat).map (Value.int .i64 ·))) := at_end
  refine split_of (fun h2 => ?_) fun h2 => ?_
  · simp at h2
    obtain ⟨k, rfl⟩ : ∃ n : Nat, k = n := ⟨k.toNat, by omega⟩
    rw [wrap64_id (by omega) (by omega)]
    simp only [Int.toNat_natCast] at hs' e0 e1 e2
    have hlen := fieldL_len a s p w k
    refine nP ((MkAt.app hm).at hs') rfl (arA_rd hs' (at_app hm.ar) (lI (blkA_at hs' e1) rfl (lI (blkA_at hs' e1) rfl (lI (blkA_at hs' e1) rfl (lI (blkA_at hs' e0) rfl (head_Shape_Holds_C hsm (by omega) fun g2 f2 => ?_))))))
    have hs2 := hs'.fr f2
    have next : fieldL a s p w ((k : Int) + 1).toNat = fieldL a s p w k ++ (if holdSh s.1 s.2.2 k w && a.rd p (k + 1) != 0 then [a.rd p (k + 1)] else []) := by
      rw [show ((k : Int) + 1).toNat = k + 1 from by omega]; rfl
    have skip : (holdSh s.1 s.2.2 k w && a.rd p (k + 1) != 0) = false → (0 ≤ (k : Int) + 1 ∧ (k : Int) + 1 ≤ w - 1 ∧ ∃ q' c', (q, (fieldL a s p w (k : Int).toNat).length, c) = (q', ((fieldL a s p w ((k : Int) + 1).toNat).length, c')) ∧
        Sat g2 (Γ ++ [blkA b1 95 [.int .i64 w, .int .i64 hk, .int .i64 hs_], blkA b2 86 [.int .i64 s.1, .int .i64 s.2.1, .int .u64 (s.2.2 : Int)], rowA 2 1 q' (fieldL a s p w ((k : Int) + 1).toNat).length c' ((fieldL a s p w ((k : Int) + 1).toNat).map (Value.int .i64 ·))]))
        ∧ (w - 1 - ((k : Int) + 1)).toNat < (w - 1 - (k : Int)).toNat := by
      intro hc
      rw [hc] at next
      simp only [Bool.false_eq_true, if_false, List.append_nil] at next
      refine ⟨⟨by omega, by omega, q, c, ?_, ?_⟩, by omega⟩
      · rw [next]; rfl
      · rw [next]; exact hs2
    refine split_of (fun h3 => split_of (fun h4 => ?_) fun h4 => skip (by rw [h3, h4]; rfl)) fun h3 => skip (by rw [h3]; rfl)
    rw [h3, h4] at next
    simp only [Bool.and_self, if_true] at next
    refine nW fun g3 f3 s3 b3 => ?_
    refine rowApp_of ty_words in_word int_one (by decide) (hs2.fr f3) e2 (src_one b3) (by intro u hu; rw [List.mem_singleton.1 hu]; rfl) (by simp only [maxLen]; omega) (by omega) fun q2 c2 g4 hs4 => ⟨_, _, _, rfl, ?_⟩
    rw [set_end] at hs4
    refine ⟨⟨by omega, by omega, q2, c2, ?_, ?_⟩, by omega⟩
    · rw [next, List.length_append]; rfl
    · rw [next, List.length_append, List.map_append]; exact hs4
  · simp at h2
    obtain rfl : k = w - 1 := by omega
    refine hK h' q c (hs'.sub (fun i => if i < Γ.length then i else i + 2) (fun i j hi hj h => ?_) fun i hi => ?_)
    · split at h <;> split at h <;> omega
    · simp only [List.length_append, List.length_cons, List.length_nil] at hi
      by_cases hl : i < Γ.length
      · rw [if_pos hl, List.getElem?_append_left hl, List.getElem?_append_left hl]
      · rw [if_neg hl]
        obtain rfl : i = Γ.length := by omega
        have e3 : (Γ ++ [rowA 2 1 q (fieldL a s p w (w - 1).toNat).length c ((fieldL a s p w (w - 1).toNat).map (Value.int .i64 ·))])[Γ.length + 0]? = some (rowA 2 1 q (fieldL a s p w (w - 1).toNat).length c ((fieldL a s p w (w - 1).toNat).map (Value.int .i64 ·))) := at_end
        rw [e2]
        exact e3.symm

theorem hdOk_facts {x : Int} (h : hdOk x = true) : 1 ≤ hdW x ∧ hdW x ≤ 64 ∧ 0 ≤ hdS x := by
  unfold hdOk mayHd at h
  simp at h
  omega

theorem mark_Fields_C (hs : Sat h Γ) (hm : MkAt Γ m a ts xs) (hts : ∀ s ∈ ts, s.2.2 < 2 ^ 64) {p : Int} {K : Option Addr → Nat → Nat → H → Prop}
    (hk : ∀ h' q c, Sat h' (Γ ++ [rowA 2 1 q (fieldsOf a ts p).length c ((fieldsOf a ts p).map (Value.int .i64 ·))]) → K q (fieldsOf a ts p).length c h') :
    mark_Marker_Fields.C (some ⟨m.M, 0, none⟩) p h K := by
  refine mark_Marker_Fields.of ?_
  unfold mark_Marker_Fields.S
  have nil : fieldsOf a ts p = [] → ∀ h', Fr noB h h' → K none 0 0 h' := fun he h' hf => by
    rw [he] at hk
    exact hk h' none 0 ((hs.fr hf).rowNil 2 1)
  refine nP (hm.at hs) rfl (arena_Read_C (arA_at hs hm.ar) (fun h1 => ?_) fun h1 => ?_)
  · exact split_true (nil (by unfold fieldsOf; rw [h1]; rfl) h (Fr.refl _ _))
  refine split_false (head_Unpack_C (fun h2 g1 f1 => ?_) fun h2 g1 f1 => ?_)
  all_goals refine nW fun g2 f2 s2 b2 => sT b2 (by simp) fun g3 f3 b3 => sT b3 (by simp) fun g4 f4 b4 => sT b4 (by simp) fun g5 f5 b5 => ?_
  all_goals
    have f15 : Fr noB h g5 := (f1.trans f2).since ((f3.trans f4).trans f5) fun x hx => .inr (by have := f1.1; omega)
    simp only [List.set_cons_zero, List.set_cons_succ, Nat.zero_add] at b5
  · exact split_true (nil (by unfold fieldsOf; rw [h1, h2]; rfl) g5 f15)
  obtain ⟨w1, w2, w3⟩ := hdOk_facts h2
  refine split_false (nilC_of (lI b5 rfl (lP (hm.at (hs.fr f15)) rfl (geom_Span_C (need_of (lP (hm.at (hs.fr f15)) rfl rfl) (need_of (lI b5 rfl rfl) ?_))))))
  refine arena_Class_C (arA_at (hs.fr f15) hm.ar) (need_of (lI b5 rfl rfl) (geom_Words_C (need_of (lI b5 rfl rfl) (split_of (fun h3 => ?_) fun h3 => ?_))))
  · exact nil (by unfold fieldsOf; rw [decide_eq_false (p := hdW (a.word p 0) ≤ _) (by simp at h3; omega)]; simp) g5 f15
  simp only [decide_eq_false_iff_not, Int.not_lt] at h3
  have hs5 : Sat g5 (Γ ++ [blkA g1.size 95 [.int .i64 (hdW (a.word p 0)), .int .i64 (hdK (a.word p 0)), .int .i64 (hdS (a.word p 0))]]) :=
    hs.new f15 (d := (· = g1.size)) ⟨b5, fun x => by simp⟩ fun x hx => by have := f1.1; omega
  -- the loop, from where the shape lies in a block of its own
  have last : ∀ (s : Shp) (g : H) (b : Nat), ts[(hdS (a.word p 0)).toNat]? = some s → Sat g (Γ ++ [blkA g1.size 95 [.int .i64 (hdW (a.word p 0)), .int .i64 (hdK (a.word p 0)), .int .i64 (hdS (a.word p 0))], blkA b 86 [.int .i64 s.1, .int .i64 s.2.1, .int .u64 (s.2.2 : Int)]]) → _ :=
    fun s g b hsh hsg => fields_loop (K := K) (m := m) (a := a) (ts := ts) (xs := xs) (hk := hdK (a.word p 0)) (hs_ := hdS (a.word p 0)) (b1 := g1.size) (b2 := b) (s := s) (p := p) (w := hdW (a.word p 0)) (by simpa using hsg.rowNil 2 1) hm ⟨w1, w2⟩ (hts s (List.mem_of_getElem? hsh)) (by
      have e : fieldsOf a ts p = fieldL a s p (hdW (a.word p 0)) (hdW (a.word p 0) - 1).toNat := by
        unfold fieldsOf
        rw [h1, h2, decide_eq_true h3, hsh]
        rfl
      rw [← e]
      exact hk)
  have no : (hdS (a.word p 0) < 0 ∨ (ts.length : Int) ≤ hdS (a.word p 0)) → fieldsOf a ts p = [] := fun h4 => by
    unfold fieldsOf
    have : ts[(hdS (a.word p 0)).toNat]? = none := by rw [List.getElem?_eq_none]; omega
    rw [this]
    split <;> rfl
  refine nP (hm.at (hs.fr f15)) rfl (lI b5 rfl (need_of ?_ ?_))
  · refine head_Shape_C (hs.fr f15) hm.tb (fun h4 g6 f6 => ?_) fun s _ h5 g6 f6 => ?_
    all_goals refine nW fun g7 f7 s7 b7 => sT b7 (by simp) fun g8 f8 b8 => sT b8 (by simp) fun g9 f9 b9 => sT b9 (by simp) fun g10 f10 b10 => ?_
    all_goals
      have f610 : Fr noB g5 g10 := (f6.trans f7).since ((f8.trans f9).trans f10) fun x hx => .inr (by have := f6.1; omega)
      simp only [List.set_cons_zero, List.set_cons_succ, Nat.zero_add] at b10
    · exact split_true (nil (no h4) g10 (f15.trans f610))
    · refine split_false (lI (f610.blk b5 (fun h => h)) rfl (last s g10 g6.size h5 ?_))
      have := hs5.new f610 (A := blkA g6.size 86 [.int .i64 s.1, .int .i64 s.2.1, .int .u64 (s.2.2 : Int)]) (d := (· = g6.size)) ⟨b10, fun x => by simp⟩ fun x hx => by have := f6.1; omega
      simpa using this
  · refine nW fun g7 f7 s7 b7 => need_of (lI (f7.blk b5 (fun h => h)) rfl rfl) (need_of (lP (hm.at (hs.fr (f15.trans f7))) rfl rfl) ?_)
    refine head_Shape_C (hs.fr (f15.trans f7)) hm.tb (fun h4 g6 f6 => ?_) fun s _ h5 g6 f6 => ?_
    all_goals
      have b7' := f6.blk b7 (fun h => h)
      refine sT b7' (by simp) fun g8 f8 b8 => sT b8 (by simp) fun g9 f9 b9 => sT b9 (by simp) fun g10 f10 b10 => ?_
      have f610 : Fr noB g5 g10 := (f7.trans f6).since ((f8.trans f9).trans f10) fun x hx => .inr (by omega)
      simp only [List.set_cons_zero, List.set_cons_succ, Nat.zero_add] at b10
    · exact split_true (nil (no h4) g10 (f15.trans f610))
    · refine split_false (lI (f610.blk b5 (fun h => h)) rfl (last s g10 g5.size h5 ?_))
      have := hs5.new f610 (A := blkA g5.size 86 [.int .i64 s.1, .int .i64 s.2.1, .int .u64 (s.2.2 : Int)]) (d := (· = g5.size)) ⟨b10, fun x => by simp⟩ fun x hx => by omega
      simpa using this

end
end Go.Proofs.YtkfdbgpegekcfaaGreatDoorP

namespace Go.Proofs.YtkfdbgpegekcfaaGreatDoorP
open Go Go.GL Go.GLM Go.Proofs Go.Maps
attribute [local irreducible] rawV rawN rawU Tryz.prog

/-- Addresses shaded one behind the other. -/
def shAll (a : Ar) (xs : List Int) : List Int → Ar × List Int
  | [] => (a, xs)
  | v :: r => shAll (shA a v) (shQ a xs v) r

theorem shAll_snoc (l : List Int) (v : Int) : ∀ (a : Ar) (xs : List Int), shAll a xs (l ++ [v]) = (shA (shAll a xs l).1 v, shQ (shAll a xs l).1 (shAll a xs l).2 v) := by
  induction l with
  | nil => intro a xs; rfl
  | cons x l ih => intro a xs; exact ih _ _

theorem shQ_len (a : Ar) (xs : List Int) (v : Int) : (shQ a xs v).length ≤ xs.length + 1 := by
  unfold shQ
  split
  · simp
  · omega

theorem shAll_len : ∀ (l : List Int) (a : Ar) (xs : List Int), (shAll a xs l).2.length ≤ xs.length + l.length
  | [], a, xs => Nat.le_refl _
  | x :: l, a, xs => by
    have h1 := shAll_len l (shA a x) (shQ a xs x)
    have h2 := shQ_len a xs x
    have e : (shAll a xs (x :: l)) = shAll (shA a x) (shQ a xs x) l := rfl
    rw [e, List.length_cons]
    generalize (shAll (shA a x) (shQ a xs x) l).2.length = u at *
    generalize (shQ a xs x).length = v at *
    omega

section
variable {h : H} {Γ Δ : List Asrt} {m : MkP} {a a' : Ar} {ts : List Shp} {xs xs' : List Int}

theorem fieldsOf_len (a : Ar) (ts : List Shp) (p : Int) : (fieldsOf a ts p).length ≤ 63 := by
  unfold fieldsOf
  split
  · rename_i h
    simp only [Bool.and_eq_true] at h
    have := hdOk_facts h.1.2
    split
    · have := fieldL_len a ‹Shp› p (hdW (a.word p 0)) (hdW (a.word p 0) - 1).toNat
      omega
    · simp
  · simp

theorem mark_Step_C (hs : Sat h Γ) (hm : MkAt Γ m a ts xs) (hts : ∀ s ∈ ts, s.2.2 < 2 ^ 64) (hlen : xs.length ≤ 900000) {K : Bool → H → Prop} (hno : xs = [] → K false h)
    (hyes : ∀ x r, xs = x :: r → ∀ h', Sat h' (m.put Γ (shAll a r (fieldsOf a ts x)).1 (shAll a r (fieldsOf a ts x)).2) → K true h') : mark_Marker_Step.C (some ⟨m.M, 0, none⟩) h K := by
  refine mark_Marker_Step.of ?_
  unfold mark_Marker_Step.S
  refine nP (hm.at hs) rfl (next_C hs hm.qu (fun h1 => split_true (hno h1)) fun x r he g1 hs1 => split_false ?_)
  subst he
  rw [hm.put_qu] at hs1
  have hm1 : MkAt (m.put Γ a r) m a ts r := hm.put
  refine mark_Fields_C hs1 hm1 hts fun g2 q c hs2 => ?_
  have hl := fieldsOf_len a ts x
  simp only [List.length_cons] at hlen
  have hyes := hyes x r rfl
  generalize fieldsOf a ts x = l at *
  refine loop_of (fun t h' => 0 ≤ t.1 ∧ t.1 ≤ l.length ∧ Sat h' (m.put Γ (shAll a r (l.take t.1.toNat)).1 (shAll a r (l.take t.1.toNat)).2 ++ [rowA 2 1 q l.length c (l.map (Value.int .i64 ·))])) (fun t _ => (l.length - t.1).toNat)
    ⟨by simp, by simp, hs2⟩ ?_
  rintro ⟨k, _⟩ h' ⟨h0, h1, hs'⟩
  simp only at h0 h1 hs' ⊢
  refine split_of (fun h2 => ?_) fun h2 => ?_
  · simp at h2
    obtain ⟨k, rfl⟩ : ∃ n : Nat, k = n := ⟨k.toNat, by omega⟩
    simp only [Int.toNat_natCast] at hs'
    have hk : k < l.length := by omega
    have e : (m.put Γ (shAll a r (l.take k)).1 (shAll a r (l.take k)).2 ++ [rowA 2 1 q l.length c (l.map (Value.int .i64 ·))])[(m.put Γ (shAll a r (l.take k)).1 (shAll a r (l.take k)).2).length + 0]? = some (rowA 2 1 q l.length c (l.map (Value.int .i64 ·))) := at_end
    refine rowA_idx hs' e (x := .int .i64 l[k]) h0 (by simp [hk]) fun ad had => ldI_of had ?_
    have hm2 : MkAt (m.put Γ (shAll a r (l.take k)).1 (shAll a r (l.take k)).2) m (shAll a r (l.take k)).1 ts (shAll a r (l.take k)).2 := hm.put
    have hql := shAll_len (l.take k) a r
    rw [List.length_take] at hql
    refine mark_Shade_C hs' (hm2.app) (by omega) fun g3 hs3 => ?_
    rw [hm2.put_app, hm.put_put] at hs3
    rw [wrap64_id (by omega) (by omega)]
    refine ⟨⟨by omega, by omega, ?_⟩, by omega⟩
    rw [show ((k : Int) + 1).toNat = k + 1 from by omega, List.take_succ_eq_append_getElem hk, shAll_snoc]
    exact hs3
  · simp at h2
    obtain rfl : k = l.length := by omega
    rw [Int.toNat_natCast, List.take_length] at hs'
    exact hyes h' hs'.init

/-- slices.Clone -/
theorem clone_C (hs : Sat h Γ) {p : Option Addr} {n c : Nat} {l : List Int} (hq : Src h 1 p n c (l.map (Value.int .i64 ·))) (hn : n ≤ 1000000) {K : Option Addr → Nat → Nat → H → Prop}
    (hk : ∀ h' q c', Sat h' (Γ ++ [rowA 2 1 q l.length c' (l.map (Value.int .i64 ·))]) → K q l.length c' h') : slices_Clone_int64_int64.C p n c h K := by
  refine slices_Clone_int64_int64.of ?_
  unfold slices_Clone_int64_int64.S
  have hl : n = l.length := by have := hq.1; simp at this; omega
  subst hl
  rcases hq.2 with ⟨rfl, h1, rfl⟩ | ⟨a, rfl, h1⟩
  · have : l = [] := List.eq_nil_of_length_eq_zero h1
    subst this
    exact split_true (hk h none 0 (hs.rowNil 2 1))
  · refine split_false (nW fun g1 f1 s1 b1 => ?_)
    have hs1 := hs.rowNew (size := 1) (n := 0) f1 b1 rfl (Nat.zero_le _)
    have e : (Γ ++ [rowA 2 1 (some ⟨h.size, 0, none⟩) 0 0 []])[Γ.length + 0]? = some (rowA 2 1 (some ⟨h.size, 0, none⟩) 0 0 []) := at_end
    refine rowApp_of ty_words in_word int_one (by decide) hs1 e (hq.fr fun _ _ hc => Fr.cell f1 hc) (by intro u hu; obtain ⟨x, _, rfl⟩ := List.mem_map.1 hu; rfl) (by simp only [maxLen]; omega) (by omega) fun q c' g2 hs2 => ⟨_, _, _, rfl, ?_⟩
    rw [set_end, Nat.zero_add, List.nil_append] at hs2
    rw [Nat.zero_add]
    exact hk g2 q c' hs2

end
end Go.Proofs.YtkfdbgpegekcfaaGreatDoorP

namespace Go.Proofs.YtkfdbgpegekcfaaGreatDoorP
open Go Go.GL Go.GLM Go.Proofs

/-- What is come to from the roots, through the fields. -/
inductive Rch (a : Ar) (ts : List Shp) (roots : List Int) : Int → Prop
  | root {x : Int} : x ∈ roots → a.is x = true → Rch a ts roots x
  | step {x y : Int} : Rch a ts roots x → y ∈ fieldsOf a ts x → a.is y = true → Rch a ts roots y

theorem Rch.is {a : Ar} {ts : List Shp} {roots : List Int} {x : Int} (h : Rch a ts roots x) : a.is x = true := by
  cases h <;> assumption

theorem is_range {a : Ar} {x : Int} (h : a.is x = true) : 0 ≤ x ∧ x < 32768 := by
  unfold Ar.is at h
  simp at h
  have := plOf_in (p := x) (c := a.clsAt (spn x)) h.1
  omega

theorem nodup_bound (n : Nat) : ∀ (l : List Int), l.Nodup → (∀ x ∈ l, 0 ≤ x ∧ x < n) → l.length ≤ n := by
  induction n with
  | zero =>
    intro l _ hb
    cases l with
    | nil => exact Nat.le_refl _
    | cons x l => have := hb x (by simp); omega
  | succ n ih =>
    intro l hn hb
    have h1 := ih (l.erase n) (hn.erase _) fun x hx => by
      have hx' := (List.Nodup.mem_erase_iff hn).1 hx
      have := hb x hx'.2
      have := hx'.1
      omega
    have h2 : l.length ≤ (l.erase (n : Int)).length + 1 := by
      rw [List.length_erase]
      split <;> omega
    omega

/-- The words are such as 64 bits hold. -/
def Ar.Wf (a : Ar) : Prop := ∀ x ∈ a.ws, -9223372036854775808 ≤ x ∧ x < 9223372036854775808

theorem Ar.Wf.word {a : Ar} (h : a.Wf) (p f : Int) : -9223372036854775808 ≤ a.word p f ∧ a.word p f < 9223372036854775808 := by
  unfold Ar.word
  cases hx : a.ws[(p + f).toNat]? with
  | none => simp
  | some x => exact h x (List.mem_of_getElem? hx)

theorem Ar.Wf.rd {a : Ar} (h : a.Wf) (p f : Int) : -9223372036854775808 ≤ a.rd p f ∧ a.rd p f < 9223372036854775808 := by
  unfold Ar.rd
  split
  · exact h.word p f
  · omega

theorem fieldL_mem {a : Ar} {s : Shp} {p w x : Int} {k : Nat} (h : x ∈ fieldL a s p w k) : ∃ f : Nat, f < k ∧ holdSh s.1 s.2.2 f w = true ∧ x = a.rd p (f + 1) ∧ x ≠ 0 := by
  induction k with
  | zero => simp [fieldL] at h
  | succ k ih =>
    rw [fieldL, List.mem_append] at h
    rcases h with h | h
    · obtain ⟨f, h1, h2⟩ := ih h
      exact ⟨f, by omega, h2⟩
    · split at h
      · rename_i hc
        simp only [List.mem_singleton] at h
        simp only [Bool.and_eq_true, bne_iff_ne] at hc
        exact ⟨k, by omega, hc.1, h, by rw [h]; exact hc.2⟩
      · simp at h

theorem Ar.Wf.fields {a : Ar} (h : a.Wf) {ts : List Shp} {p x : Int} (hx : x ∈ fieldsOf a ts p) : -9223372036854775808 ≤ x ∧ x < 9223372036854775808 := by
  unfold fieldsOf at hx
  split at hx
  · split at hx
    · obtain ⟨f, _, _, h2, _⟩ := fieldL_mem hx
      rw [h2]; exact h.rd _ _
    · simp at hx
  · simp at hx

end Go.Proofs.YtkfdbgpegekcfaaGreatDoorP

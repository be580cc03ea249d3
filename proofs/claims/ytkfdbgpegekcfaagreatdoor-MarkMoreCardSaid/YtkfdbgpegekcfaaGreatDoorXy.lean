/-
  What all rows of the seat share (RX): the knobs, the layout, the table's tie.
  MarkMore (MB): from more roots no less is reached; what is reached from what is reached is reached; each root that is taken is.
  From more roots no less is reached, what is reached from what is reached is reached, each root that is taken is: the law MarkMore answers true at every input, and its arguments read as before. No condition beyond the given statement's own.
-/
import Derived.Test.YtkfdbgpegekcfaaGreatDoorXg
import Derived.Test.YtkfdbgpegekcfaaGreatDoorCards
import Derived.Test.YtkfdbgpegekcfaaGreatDoorTie
import Derived.SevenTiedAt
import Derived.Test.YtkfdbgpegekcfaaGreatDoorXf

namespace Go.Proofs.YtkfdbgpegekcfaaGreatDoor
open Go Go.GL Go.GLM Go.Proofs Go.ChangeShapes Go.WideShapes Go.ChangeAt Go.RowKit Go.Proofs.YtkfdbgpegekcfaaGreatDoorP

theorem own : ownKnob Tryz.prog.godebug = none := by kernel_rfl
theorem laidOut : laidOutB Tryz.prog = true := by kernel_rfl

abbrev tabL : List (String × DataW Unit) := [("math/bits.deBruijn64tab", Rows.laid_math_bits_deBruijn64tab)]

/-- The door's own heap meets the condition. -/
theorem door_met (os : Os) (args : Array Value) : laidMetH Tryz.prog tabL ((World.doorLaid Tryz.prog 14 os).forCall (fun _ _ => 0) ⟨#[], args, []⟩).memory :=
  laidMetH_of_parts3 (fuel := 8) (laidMet_of_run' 8 (by kernel_rfl) (by kernel_rfl)) (by kernel_rfl) (by kernel_rfl)

end Go.Proofs.YtkfdbgpegekcfaaGreatDoor

namespace Go.Proofs.YtkfdbgpegekcfaaGreatDoorP
open Go Go.GL Go.GLM Go.Proofs Go.Maps
attribute [local irreducible] rawV rawN rawU Tryz.prog takesN fillAll worldAr worldAt Ar.markAt shapeL

/-- Two rising lists with the same members are one. -/
theorem sorted_eq : ∀ {l l' : List Int}, l.Pairwise (· < ·) → l'.Pairwise (· < ·) → (∀ x, x ∈ l ↔ x ∈ l') → l = l'
  | [], [], _, _, _ => rfl
  | [], b :: _, _, _, h => by have := (h b).2 (by simp); simp at this
  | a :: _, [], _, _, h => by have := (h a).1 (by simp); simp at this
  | a :: r, b :: s, h1, h2, h => by
    rw [List.pairwise_cons] at h1 h2
    have e : a = b := by
      have ha := (h a).1 (by simp)
      have hb := (h b).2 (by simp)
      rcases List.mem_cons.1 ha with h3 | h3
      · exact h3
      · rcases List.mem_cons.1 hb with h4 | h4
        · exact h4.symm
        · have := h1.1 b h4; have := h2.1 a h3; omega
    subst e
    congr 1
    refine sorted_eq h1.2 h2.2 fun x => ?_
    constructor
    · intro hx
      have := h1.1 x hx
      rcases List.mem_cons.1 ((h x).1 (by simp [hx])) with h3 | h3
      · omega
      · exact h3
    · intro hx
      have := h2.1 x hx
      rcases List.mem_cons.1 ((h x).2 (by simp [hx])) with h3 | h3
      · omega
      · exact h3

theorem sorted_le {l : List Int} (h : l.Pairwise (· < ·)) {i j : Nat} (hi : i < l.length) (hj : j < l.length) : l[i] < l[j] ↔ i < j := by
  have hp := List.pairwise_iff_getElem.1 h
  constructor
  · intro hl
    by_cases e : i < j
    · exact e
    · by_cases e2 : i = j
      · subst e2; omega
      · have := hp j i hj hi (by omega); omega
  · exact fun hl => hp i j hi hj hl

section
variable {h : H}

/-- Roots are gathered from places' numbers. -/
theorem roots_loop {g0 : H} {c : WC} {a0 : Ar} {q : Option Addr} {cq : Nat} {at_ : List Int} {Δ : List Asrt} {g : H} {rp : Option Addr} {roots : List Int} (hl : roots.length ≤ 10)
    (arg : ∀ {h' : H} {Γ : List Asrt}, Sat h' Γ → Γ[0]? = some (oldA g0) → ∃ rc, Src h' 1 rp roots.length rc (roots.map (Value.int .i64 ·)))
    {r0 : List Int} (hr0 : r0.length ≤ 100) (hra : ∀ x ∈ r0, x ∈ at_) {p0 : Option Addr} {c0 : Nat} (hs : Sat g (wMk g0 c a0 [] q cq at_ ++ (rowA 2 1 p0 r0.length c0 (r0.map (Value.int .i64 ·)) :: Δ)))
    {E : Int × ((Option Addr × (Nat × Nat)) × Unit) → H → Prop}
    (hE : ∀ (r : List Int) (p' : Option Addr) (c' : Nat) (h' : H) (i : Int), (∀ x ∈ r0, x ∈ r) → (∀ x ∈ r, x ∈ at_) → r.length ≤ r0.length + 10 → Sat h' (wMk g0 c a0 [] q cq at_ ++ (rowA 2 1 p' r.length c' (r.map (Value.int .i64 ·)) :: Δ)) → E (i, ((p', (r.length, c')), ())) h') :
    loopT (σ := (Int × ((Option Addr × (Nat × Nat)) × Unit))) (fun J17 s18 h19 => split (decide (s18.1 < ((roots.length : Nat) : Int))) (joinP (fun (p20 : Option Addr) (k21 : Nat) (k22 : Nat) (h23 : H) => J17 ((IntKind.wrap .i64 (s18.1 + 1)), ((p20, (k21, k22)), ())) h23) (fun J24 => idx rp roots.length s18.1 1 (fun a25 => ldI h19 a25 .i64 (fun n26 => split (decide (n26 ≥ 0)) (idx rp roots.length s18.1 1 (fun a27 => ldI h19 a27 .i64 (fun n28 => split (decide (n28 < ((at_.length : Nat) : Int))) (idx rp roots.length s18.1 1 (fun a29 => ldI h19 a29 .i64 (fun n30 => idx q at_.length n30 1 (fun a31 => ldI h19 a31 .i64 (fun n32 => newC h19 [(.int .i64 n32)] 2 (fun a33 h34 => rawN Tryz.prog (builtin .append #[28, 28] 28 #[false, false] #[(.slice s18.2.1.1 s18.2.1.2.1 s18.2.1.2.2), (.slice (some a33) 1 1)]) h34 (fun v35 h36 => exL v35 (fun p37 k38 k39 => J24 p37 k38 k39 h36)))))))) (J24 s18.2.1.1 s18.2.1.2.1 s18.2.1.2.2 h19)))) (J24 s18.2.1.1 s18.2.1.2.1 s18.2.1.2.2 h19))))) (E s18 h19)) (0, ((p0, (r0.length, c0)), ())) g := by
  unfold joinP
  refine loop_of (fun t h' => ∃ (r : List Int) (c' : Nat), 0 ≤ t.1 ∧ t.1 ≤ roots.length ∧ t.2.1.2 = (r.length, c') ∧ (r.length : Int) ≤ r0.length + t.1 ∧ (∀ x ∈ r0, x ∈ r) ∧ (∀ x ∈ r, x ∈ at_) ∧
      Sat h' (wMk g0 c a0 [] q cq at_ ++ (rowA 2 1 t.2.1.1 r.length c' (r.map (Value.int .i64 ·)) :: Δ))) (fun t _ => (roots.length - t.1).toNat)
    ⟨r0, c0, by simp, by simp, rfl, by simp, fun x hx => hx, hra, hs⟩ ?_
  rintro ⟨i, ⟨rq, k1, k2⟩, _⟩ g3 ⟨r, c', i0, i1, he, hrl, hrr, hrat, hs3⟩
  simp only [Prod.mk.injEq] at he
  obtain ⟨rfl, rfl⟩ := he
  simp only at i0 i1 hrl hs3 ⊢
  refine split_of (fun h3 => ?_) fun h3 => ?_
  · simp at h3
    have hlt : i.toNat < roots.length := by omega
    have hx : roots[i.toNat]? = some roots[i.toNat] := by simp [hlt]
    generalize roots[i.toNat] = v at *
    rw [wrap64_id (by omega) (by omega)]
    have skip : (∃ (r' : List Int) (c' : Nat), 0 ≤ i + 1 ∧ i + 1 ≤ (roots.length : Int) ∧ (r.length, k2) = (r'.length, c') ∧ (r'.length : Int) ≤ r0.length + (i + 1) ∧ (∀ x ∈ r0, x ∈ r') ∧ (∀ x ∈ r', x ∈ at_) ∧
        Sat g3 (wMk g0 c a0 [] q cq at_ ++ (rowA 2 1 rq r'.length c' (r'.map (Value.int .i64 ·)) :: Δ))) ∧ (roots.length - (i + 1)).toNat < (roots.length - i).toNat :=
      ⟨⟨r, k2, by omega, by omega, rfl, by omega, hrr, hrat, hs3⟩, by omega⟩
    obtain ⟨rc, hr⟩ := arg hs3 rfl
    refine src_idx hr i0 hx fun ad had => ldI_of had (split_of (fun h4 => ?_) fun h4 => skip)
    refine src_idx hr i0 hx fun ad had => ldI_of had (split_of (fun h5 => ?_) fun h5 => skip)
    simp at h4 h5
    have hv : at_[v.toNat]? = some (at_[v.toNat]'(by omega)) := by simp
    have hvm : at_[v.toNat]'(by omega) ∈ at_ := List.getElem_mem _
    generalize at_[v.toNat]'(by omega) = p at *
    refine src_idx hr i0 hx fun ad had => ldI_of had (rowA_idx hs3 (i := 5) rfl (x := .int .i64 p) h4 (by rw [List.getElem?_map, hv]; rfl) fun ad2 had2 => ldI_of had2 (nW fun g4 f4 s4 b4 => ?_))
    refine rowApp_of ty_words in_word int_one (by decide) (hs3.fr f4) (i := 6) rfl (src_one b4) (by intro u hu; rw [List.mem_singleton.1 hu]; rfl) (by simp only [maxLen]; omega) (by omega) fun q5 c5 g5 hs5 => ⟨_, _, _, rfl, ?_⟩
    refine ⟨⟨r ++ [p], c5, by omega, by omega, by simp, by simp; omega, fun x hx => by simp [hrr x hx], fun x hx => ?_, ?_⟩, by omega⟩
    · rcases List.mem_append.1 hx with h6 | h6
      · exact hrat x h6
      · rw [List.mem_singleton.1 h6]; exact hvm
    · rw [List.length_append, List.map_append]
      exact hs5
  · simp at h3
    exact hE r rq k2 g3 i hrr hrat (by omega) hs3

theorem law7_MarkMore_C (hT : Tab h) {xp ap bp : Option Addr} {xc ac bc : Nat} {l : List Th7} {ra rb : List Int} (ha : ThAt h xp l) (hlw : ∀ x ∈ l, ∀ v ∈ x.2.2, I64 v)
    (hra : Src h 1 ap ra.length ac (ra.map (Value.int .i64 ·))) (hrb : Src h 1 bp rb.length bc (rb.map (Value.int .i64 ·))) {K : Bool → H → Prop} (hk : ∀ h', Fr noB h h' → K true h') :
    gantlinelaw7_MarkMore.C xp l.length xc ap ra.length ac bp rb.length bc h K := by
  refine gantlinelaw7_MarkMore.of ?_
  unfold gantlinelaw7_MarkMore.S
  refine law7_awake_C hT fun g1 f1 => split_false (split_of (fun h1 => hk g1 f1) fun h1 => split_of (fun h2 => hk g1 f1) fun h2 => split_of (fun h2' => hk g1 f1) fun h2' => ?_)
  simp at h1 h2 h2'
  have ha1 := ha.fr fun _ _ hc => Fr.cell f1 hc
  refine law7_world_C (n := 10) (hT.fr f1 fun h => h) ha1 (by omega) (by decide) (by decide) fun g2 c q cq hs2 => split_false ?_
  obtain ⟨hfine, hbare, hlen⟩ := worldAr_fine (n := 10) (by decide) hlw
  have hatin := worldAt_in (n := 10) (by decide) l
  have hatl := worldAt_len 10 l
  generalize worldAt 10 l = at_ at *
  generalize worldAr 10 l = a0 at *
  have hI : ∀ x ∈ at_, I64 x := fun x hx => by have := hatin x hx; exact ⟨by omega, by omega⟩
  have hs2' : Sat g2 (wMk g1 c a0 [] q cq at_ ++ (rowA 2 1 none ([] : List Int).length 0 (([] : List Int).map (Value.int .i64 ·)) :: [])) := hs2.rowNil 2 1
  have argA : ∀ {h' : H} {Γ : List Asrt}, Sat h' Γ → Γ[0]? = some (oldA g1) → ∃ rc, Src h' 1 ap ra.length rc (ra.map (Value.int .i64 ·)) := fun hs' hi => ⟨ac, hra.fr fun _ _ hc => Sat.oldCell hs' hi (Fr.cell f1 hc)⟩
  have argB : ∀ {h' : H} {Γ : List Asrt}, Sat h' Γ → Γ[0]? = some (oldA g1) → ∃ rc, Src h' 1 bp rb.length rc (rb.map (Value.int .i64 ·)) := fun hs' hi => ⟨bc, hrb.fr fun _ _ hc => Sat.oldCell hs' hi (Fr.cell f1 hc)⟩
  have hm := wMk_at g1 c a0 [] q cq at_
  refine roots_loop (r0 := []) (Δ := []) (by omega) argA (by simp) (fun x hx => by simp at hx) hs2' fun r p3 c3 g3 i3 _ hrat hrl hs3 => ?_
  simp only [List.length_nil, Nat.zero_add] at hrl
  refine mark_Reach_C hs3 hm.app shape_small hfine.wf (rowA_at hs3 (i := 6) rfl).src (by omega) (fun x hx => hI x (hrat x hx)) fun g4 pX cX X hs4 hX hXs => ?_
  have hXl : X.length ≤ 32768 := nodup_bound 32768 X (hXs.imp fun h => by omega) fun x hx => is_range ((hX x).1 hx).is
  have hs4' : Sat g4 (wMk g1 c a0 [] q cq at_ ++ [rowA 2 1 p3 r.length c3 (r.map (Value.int .i64 ·)), rowA 2 1 pX X.length cX (X.map (Value.int .i64 ·))]) := hs4
  refine mark_Reach_C hs4' hm.app shape_small hfine.wf (rowA_at hs4' (i := 7) rfl).src (by omega) (fun x hx => by have := is_range ((hX x).1 hx).is; exact ⟨by omega, by omega⟩) fun g5 pG cG G hs5 hG hGs => ?_
  have eG : G = X := sorted_eq hGs hXs fun x => by
    rw [hG x]
    constructor
    · intro hr
      induction hr with
      | root h3 _ => exact h3
      | step _ h3 h4 ih => exact (hX _).2 (.step ((hX _).1 ih) h3 h4)
    · intro hx
      exact .root hx ((hX x).1 hx).is
  subst eG
  have hs5' : Sat g5 (wMk g1 c a0 [] q cq at_ ++ (rowA 2 1 p3 r.length c3 (r.map (Value.int .i64 ·)) :: [rowA 2 1 pX G.length cX (G.map (Value.int .i64 ·)), rowA 2 1 pG G.length cG (G.map (Value.int .i64 ·))])) := hs5
  refine roots_loop (by omega) argB (by omega) hrat hs5' fun r' p6 c6 g6 i6 hrr hrat' hrl' hs6 => ?_
  simp only
  refine mark_Reach_C hs6 hm.app shape_small hfine.wf (rowA_at hs6 (i := 6) rfl).src (by omega) (fun x hx => hI x (hrat' x hx)) fun g7 pY cY Y hs7 hY hYs => ?_
  have hYl : Y.length ≤ 32768 := nodup_bound 32768 Y (hYs.imp fun h => by omega) fun x hx => is_range ((hY x).1 hx).is
  have hsub : ∀ x ∈ G, x ∈ Y := fun x hx => (hY x).2 (((hX x).1 hx).mono hrr)
  have hs8 : Sat g7 (wMk g1 c a0 [] q cq at_ ++ [rowA 2 1 p6 r'.length c6 (r'.map (Value.int .i64 ·)), rowA 2 1 pX G.length cX (G.map (Value.int .i64 ·)), rowA 2 1 pG G.length cG (G.map (Value.int .i64 ·)), rowA 2 1 pY Y.length cY (Y.map (Value.int .i64 ·))]) := hs7
  have hfin := hk g7 (f1.trans (hs8.oldFr (i := 0) rfl))
  clear hs7 hs6 hs5 hs5' hs4 hs4' hs3 hs2 hs2'
  have iX : ∀ {i : Int} (_ : 0 ≤ i) (hi : i.toNat < G.length) {K : Addr → Prop}, (∀ ad, cell g7 ad = some (.int .i64 G[i.toNat]) → K ad) → idx pX G.length i 1 K := fun {i} h0 hi {K} hK => rowA_idx hs8 (i := 7) rfl (x := .int .i64 G[i.toNat]) h0 (by rw [List.getElem?_map]; simp [hi]) hK
  have iG : ∀ {i : Int} (_ : 0 ≤ i) (hi : i.toNat < G.length) {K : Addr → Prop}, (∀ ad, cell g7 ad = some (.int .i64 G[i.toNat]) → K ad) → idx pG G.length i 1 K := fun {i} h0 hi {K} hK => rowA_idx hs8 (i := 8) rfl (x := .int .i64 G[i.toNat]) h0 (by rw [List.getElem?_map]; simp [hi]) hK
  have iY : ∀ {i : Int} (_ : 0 ≤ i) (hi : i.toNat < Y.length) {K : Addr → Prop}, (∀ ad, cell g7 ad = some (.int .i64 Y[i.toNat]) → K ad) → idx pY Y.length i 1 K := fun {i} h0 hi {K} hK => rowA_idx hs8 (i := 9) rfl (x := .int .i64 Y[i.toNat]) h0 (by rw [List.getElem?_map]; simp [hi]) hK
  have iR : ∀ {i : Int} (_ : 0 ≤ i) (hi : i.toNat < r'.length) {K : Addr → Prop}, (∀ ad, cell g7 ad = some (.int .i64 r'[i.toNat]) → K ad) → idx p6 r'.length i 1 K := fun {i} h0 hi {K} hK => rowA_idx hs8 (i := 6) rfl (x := .int .i64 r'[i.toNat]) h0 (by rw [List.getElem?_map]; simp [hi]) hK
  refine split_neg (by simp) ?_
  have ltY : ∀ {i j : Nat} (hi : i < Y.length) (hj : j < Y.length), Y[i] < Y[j] ↔ i < j := fun hi hj => sorted_le hYs hi hj
  have ltG : ∀ {i j : Nat} (hi : i < G.length) (hj : j < G.length), G[i] < G[j] ↔ i < j := fun hi hj => sorted_le hGs hi hj
  -- what is reached from less is among what is reached from more
  refine loop_of (fun t h' => h' = g7 ∧ 0 ≤ t.1 ∧ t.1 ≤ G.length ∧ 0 ≤ t.2.1 ∧ t.2.1 ≤ Y.length ∧ ∀ (j : Nat) (hj : j < G.length), t.1 ≤ j → ∃ (m : Nat) (hm : m < Y.length), t.2.1 ≤ m ∧ Y[m] = G[j]) (fun t _ => (G.length - t.1).toNat)
    ⟨rfl, by simp, by simp, by simp, by simp, fun j hj _ => by
      obtain ⟨m, hm, he⟩ := List.getElem_of_mem (hsub G[j] (List.getElem_mem hj))
      exact ⟨m, hm, by simp, he⟩⟩ ?_
  rintro ⟨i, k, _⟩ g8 ⟨rfl, i0, i1, k0, k1, hall⟩
  simp only at i0 i1 k0 k1 hall ⊢
  refine split_of (fun h3 => ?_) fun h3 => ?_
  · have h3' : i < G.length := by simpa using h3
    have hiG : i.toNat < G.length := by omega
    unfold joinP
    rw [wrap64_id (x := i + 1) (by omega) (by omega)]
    refine loop_of (fun t h' => h' = g8 ∧ 0 ≤ t.1 ∧ t.1 ≤ Y.length ∧ ∀ (j : Nat) (hj : j < G.length), i ≤ j → ∃ (m : Nat) (hm : m < Y.length), t.1 ≤ m ∧ Y[m] = G[j]) (fun t _ => (Y.length - t.1).toNat) ⟨rfl, k0, k1, hall⟩ ?_
    rintro ⟨k, _⟩ g9 ⟨rfl, k0, k1, hall⟩
    simp only at k0 k1 hall ⊢
    obtain ⟨m, hm, hkm, hmi⟩ := hall i.toNat hiG (by omega)
    have hkY : k.toNat < Y.length := by omega
    refine split_pos (by simp; omega) ?_
    refine iY k0 hkY fun ad1 c1 => iX i0 hiG fun ad2 c2 => ldI_of c1 (ldI_of c2 (split_of (fun h5 => ?_) fun h5 => ?_))
    · have h5' : Y[k.toNat] < G[i.toNat] := by simpa using h5
      rw [← hmi] at h5'
      have hlt := (ltY hkY hm).1 h5'
      rw [wrap64_id (by omega) (by omega)]
      refine ⟨⟨by first | rfl | trivial, by omega, by omega, fun j hj hij => ?_⟩, by omega⟩
      obtain ⟨m', hm', hkm', hmj⟩ := hall j hj hij
      refine ⟨m', hm', ?_, hmj⟩
      by_cases e : j = i.toNat
      · subst e
        have e2 : Y[m'] = Y[m] := by rw [hmj, hmi]
        have e3 : m' = m := by
          by_cases c3 : m' < m
          · have := (ltY hm' hm).2 c3; omega
          · by_cases c4 : m < m'
            · have := (ltY hm hm').2 c4; omega
            · omega
        omega
      · have := (ltG hiG hj).2 (by omega)
        rw [← hmi, ← hmj] at this
        have := (ltY hm hm').1 this
        omega
    · have h5' : ¬ Y[k.toNat] < G[i.toNat] := by simpa using h5
      have hkm2 : k.toNat = m := by
        by_cases c3 : k.toNat < m
        · have := (ltY hkY hm).2 c3
          rw [hmi] at this
          exact absurd this h5'
        · omega
      have hYk : Y[k.toNat] = G[i.toNat] := by
        have : Y[k.toNat]? = Y[m]? := by rw [hkm2]
        rw [List.getElem?_eq_getElem hkY, List.getElem?_eq_getElem hm] at this
        rw [Option.some.inj this, hmi]
      refine iG i0 hiG fun ad3 c3 => iX i0 hiG fun ad4 c4 => ldI_of c3 (ldI_of c4 (split_neg (by simp) (split_neg (by simp; omega) ?_)))
      refine iY k0 hkY fun ad5 c5 => iX i0 hiG fun ad6 c6 => ldI_of c5 (ldI_of c6 (split_neg (by rw [hYk]; simp) ?_))
      refine ⟨⟨by first | rfl | trivial, by omega, by omega, by omega, by omega, fun j hj hij => ?_⟩, by omega⟩
      obtain ⟨m', hm', _, hmj⟩ := hall j hj (by omega)
      have := (ltG hiG hj).2 (by omega)
      rw [← hmi, ← hmj] at this
      have := (ltY hm hm').1 this
      exact ⟨m', hm', by omega, hmj⟩
  · -- each root that is taken is reached
    refine loop_of (fun t h' => h' = g8 ∧ 0 ≤ t.1 ∧ t.1 ≤ r'.length) (fun t _ => (r'.length - t.1).toNat) ⟨rfl, by simp, by simp⟩ ?_
    rintro ⟨i, _⟩ g9 ⟨rfl, i0, i1⟩
    simp only at i0 i1 ⊢
    refine split_of (fun h4 => ?_) fun h4 => hfin
    have h4' : i < r'.length := by simpa using h4
    have hiR : i.toNat < r'.length := by omega
    refine loop_of (fun t h' => h' = g9 ∧ 0 ≤ t.1 ∧ t.1 ≤ Y.length ∧ t.2.1 = decide (r'[i.toNat] ∈ Y.take t.1.toNat)) (fun t _ => (Y.length - t.1).toNat) ⟨rfl, by simp, by simp, by simp⟩ ?_
    rintro ⟨n, some_, _⟩ g10 ⟨rfl, n0, n1, hsome⟩
    simp only at n0 n1 hsome ⊢
    refine split_of (fun h5 => ?_) fun h5 => ?_
    · have h5' : n < Y.length := by simpa using h5
      have hnY : n.toNat < Y.length := by omega
      unfold joinP
      rw [wrap64_id (x := n + 1) (by omega) (by omega)]
      have ht : Y.take (n + 1).toNat = Y.take n.toNat ++ [Y[n.toNat]] := by
        rw [show (n + 1).toNat = n.toNat + 1 from by omega, List.take_succ_eq_append_getElem hnY]
      refine split_of (fun h6 => ?_) fun h6 => ?_
      · refine ⟨⟨by first | rfl | trivial, by omega, by omega, ?_⟩, by omega⟩
        rw [ht]
        rw [h6] at hsome
        have := of_decide_eq_true hsome.symm
        exact (decide_eq_true (List.mem_append_left _ this)).symm
      · refine iY n0 hnY fun ad1 c1 => iR i0 hiR fun ad2 c2 => ldI_of c1 (ldI_of c2 ?_)
        refine ⟨⟨by first | rfl | trivial, by omega, by omega, ?_⟩, by omega⟩
        rw [ht]
        rw [h6] at hsome
        have hno := of_decide_eq_false hsome.symm
        rw [Bool.eq_iff_iff]
        simp only [beq_iff_eq, decide_eq_true_eq, List.mem_append, List.mem_singleton]
        constructor
        · intro e; exact .inr e.symm
        · rintro (e | e)
          · exact absurd e hno
          · exact e.symm
    · have h5' : Y.length ≤ n := by simpa using h5
      have hn : n.toNat = Y.length := by omega
      rw [hn, List.take_length] at hsome
      refine iR i0 hiR fun ad1 c1 => ldI_of c1 (arena_Is_C (arA_at hs8 (i := 1) rfl) ?_)
      have his : a0.is r'[i.toNat] = some_ := by
        rw [hsome, Bool.eq_iff_iff, decide_eq_true_eq, hY]
        exact ⟨fun h => .root (List.getElem_mem hiR) h, fun h => h.is⟩
      rw [his]
      refine split_neg (by simp) ?_
      rw [wrap64_id (by omega) (by omega)]
      exact ⟨⟨by first | rfl | trivial, by omega, by omega⟩, by omega⟩

end
end Go.Proofs.YtkfdbgpegekcfaaGreatDoorP

namespace Go.Proofs.YtkfdbgpegekcfaaGreatDoor
open Go Go.GL Go.GLM Go.Proofs Go.ChangeShapes Go.WideShapes Go.ChangeAt Go.RowKit Go.Proofs.YtkfdbgpegekcfaaGreatDoorP

section
attribute [local irreducible] Tryz.prog callK
theorem markMore_calls {W : World} (hT : Tab W.heap) {xp rp sp : Option Addr} {xc rc sc : Nat} {l : List Th7} {ra rb : List Int} (ha : ThAt W.heap xp l) (hlw : ∀ x ∈ l, ∀ v ∈ x.2.2, I64 v) (hr : Src W.heap 1 rp ra.length rc (ra.map (Value.int .i64 ·))) (hs : Src W.heap 1 sp rb.length sc (rb.map (Value.int .i64 ·))) :
    Calls Tryz.prog 4 #[.slice xp l.length xc, .slice rp ra.length rc, .slice sp rb.length sc] W fun e w' => e = .returned (.bool true) ∧ Below W.heap.size W w' := by
  refine calls_true (args := [.slice xp l.length xc, .slice rp ra.length rc, .slice sp rb.length sc]) Tryz.call4 ?_
  have := law7_MarkMore_C hT (xc := xc) ha hlw hr hs (K := fun b h' => b = true ∧ Fr noB W.heap h') fun h' hf => ⟨rfl, hf⟩
  unfold gantlinelaw7_MarkMore.C at this
  exact this
end

set_option maxRecDepth 100000 in
theorem markMore_lifted (os : Os) (started : os.Started) (H : Type) (enc : TypeId × Value → H) :
    ReturnsInHanded {} Tryz.checked os 4 .any (fun w args => (Rows.markMoreSpec.pre enc Tryz.prog Tryz.f4 [] false w args ∧ laidMetH Tryz.prog tabL w) ∧ sizedMet enc Tryz.prog Tryz.f4 (OpenSpec.ofChange Rows.markMoreSpec) false w args)
      (Rows.markMoreSpec.post enc Tryz.prog Tryz.f4 false true false false) := by
  refine returnsInHanded_of_change_and (C := Tryz.checked) (X := fun w _ => laidMetH Tryz.prog tabL w) (fun _ _ _ hh h => h.of_heap hh) own started (by kernel_rfl) Tryz.func4
    (ChangeSpec.witness_shaped (enc := enc) (C := Tryz.checked) (os := os) (X := fun w _ => laidMetH Tryz.prog tabL w) false (World.doorLaid Tryz.prog 14 os) #[.slice none 0 0, .slice none 0 0, .slice none 0 0] 8 rfl (World.shaped_of_RefB (by kernel_rfl) (by kernel_rfl)) (by kernel_rfl) (by kernel_rfl) (by kernel_rfl) (door_met os _)) ?_
  intro W base args ds gs before hval0 hW _ _ hL _
  have hval : ∀ (j : Nat) t v, Tryz.f4.params[j]? = some t → args[j]? = some v → Value.okWide Tryz.prog W .any base t v := hval0
  have hW' := hW
  obtain ⟨p, q, hA0, hV, rfl, _, _⟩ := hW
  have hA : DataW.TrodAll enc Tryz.prog W 0 (fun _ => true) true Tryz.f4.params.toList args.toList ds p := hA0
  rw [Tryz.params4] at hA hval
  obtain ⟨v0, v1, v2, d0, d1, d2, p0, p1, p2, rfl, rfl, rfl, h0, h1, h2⟩ := trodAll_three hA
  obtain ⟨rfl, rfl⟩ := trodVars_none hV
  have h0k := h0
  have h1k := h1
  have h2k := h2
  obtain ⟨m0, e0⟩ := h0
  obtain ⟨m1, e1⟩ := h1
  obtain ⟨m2, e2⟩ := h2
  obtain ⟨xp, xc, l, c0, hth, hlw⟩ := rd_things e0
  obtain ⟨rp, rc, ra, c1, hsr, hrw⟩ := rd_ints ty_ints ty_int cInt e1
  obtain ⟨sp, sc, rb, c2, hss, hsw⟩ := rd_ints ty_ints ty_int cInt e2
  obtain ⟨a0, l0, k0, rfl⟩ := okWide_slice Tryz.underlying22 (hval 0 22 v0 rfl rfl)
  obtain ⟨a1, l1, k1, rfl⟩ := okWide_slice Tryz.underlying23 (hval 1 23 v1 rfl rfl)
  obtain ⟨a2, l2, k2, rfl⟩ := okWide_slice Tryz.underlying23 (hval 2 23 v2 rfl rfl)
  have q0 : Value.slice a0 l0 k0 = .slice xp l.length xc := (List.cons.inj c0).1
  have q1 : Value.slice a1 l1 k1 = .slice rp ra.length rc := (List.cons.inj c1).1
  have q2 : Value.slice a2 l2 k2 = .slice sp rb.length sc := (List.cons.inj c2).1
  cases q0
  cases q1
  cases q2
  refine (markMore_calls (tab_of_laid hL) hth hlw hsr hss).mono fun e W' ⟨he, hb⟩ => ?_
  subst he
  have hlt : ∀ x ∈ p0 ++ p1 ++ p2, x.block < W.heap.size := fun x hx => by simpa using hW'.lt x (by simp only [List.append_nil]; exact hx)
  refine ⟨_, rfl, ⟨_, _, _, [], _, [], hW', trodAll_mk1 (shut_bool Tryz.underlying4 true), trodAll_mk3 (Below.trod laidOut (by kernel_rfl) (of_decide_eq_true (by kernel_rfl)) h0k hb fun x hx => hlt x (by simp [hx])) (Below.trod laidOut (by kernel_rfl) (of_decide_eq_true (by kernel_rfl)) h1k hb fun x hx => hlt x (by simp [hx])) (Below.trod laidOut (by kernel_rfl) (of_decide_eq_true (by kernel_rfl)) h2k hb fun x hx => hlt x (by simp [hx])), rfl, hb.frame _, fun h => by cases h⟩⟩

theorem markMore_holds : Rows.MarkMoreSaid :=
  OpenClaim.holds_of_wide 4 Tryz.f4 rfl rfl rfl rfl rfl rfl rfl ⟨rfl, rfl, rfl, rfl, rfl⟩ rfl rfl rfl rfl rfl (by kernel_rfl) Tryz.func4 (by kernel_rfl)
    (of_decide_eq_true (by kernel_rfl)) (by unfold Func.isWrapper; first | (rw [if_pos (by decide +kernel)]; kernel_rfl) | (rw [if_neg (by decide +kernel)]; exact ⟨rfl, rfl⟩))
    (fun os started H enc _ => markMore_lifted os started H enc)

theorem markMore_card : Rows.MarkMoreCardSaid :=
  Claim7.holds_tied_plain_at .later [] [.data] true (true, "69f869d2508e27e0a4ca8559da83df44efe3a89f1df08c09541b3716b9b057ce") false
    markMore_holds (fun _ h => by cases h) (by kernel_rfl) (fun _ h => by cases h) markMore_row_tie rfl ⟨rfl, rfl⟩ (by kernel_rfl) rfl
    (fun f fn hf hfn => by
      obtain rfl : f = 4 := Option.some.inj ((show Tryz.prog.funcNamed "gantline/gantlinelaw7.MarkMore" = some 4 by kernel_rfl).symm.trans hf) |>.symm
      obtain rfl : fn = Tryz.f4 := (Option.some.inj (Tryz.func4.symm.trans hfn)).symm
      exact ⟨by kernel_rfl, fun j t ht => by
        rw [Tryz.params4] at ht
        have hm : t ∈ [22, 23] := by simpa using Array.mem_of_getElem? ht
        have hall : ([22, 23].all fun u => !Tryz.prog.wantsStandIn u) = true := by kernel_rfl
        exact (show Tryz.prog.wantsStandIn t = false by simpa using List.all_eq_true.1 hall t hm)⟩)
    (by kernel_rfl)

end Go.Proofs.YtkfdbgpegekcfaaGreatDoor

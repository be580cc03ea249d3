/-
  Stepped till nothing is grey, a marker has marked just what is reached from what was shaded: the law MarkAll answers true at every input, and its arguments read as before. No condition beyond the given statement's own.
-/
import Derived.Test.YtkfdbgpegekcfaaGreatDoorXg
import Derived.Test.YtkfdbgpegekcfaaGreatDoorCards
import Derived.Test.YtkfdbgpegekcfaaGreatDoorTie
import Derived.SevenTiedAt

namespace Go.Proofs.YtkfdbgpegekcfaaGreatDoor
open Go Go.GL Go.GLM Go.Proofs Go.ChangeShapes Go.WideShapes Go.ChangeAt Go.RowKit Go.Proofs.YtkfdbgpegekcfaaGreatDoorP

theorem own : ownKnob Tryz.prog.godebug = none := by kernel_rfl
theorem laidOut : laidOutB Tryz.prog = true := by kernel_rfl

abbrev tabL : List (String × DataW Unit) := [("math/bits.deBruijn64tab", Rows.laid_math_bits_deBruijn64tab)]

/-- The door's own heap meets the condition. -/
theorem door_met (os : Os) (args : Array Value) : laidMetH Tryz.prog tabL ((World.doorLaid Tryz.prog 14 os).forCall (fun _ _ => 0) ⟨#[], args, []⟩).memory :=
  laidMetH_of_parts3 (fuel := 8) (laidMet_of_run' 8 (by kernel_rfl) (by kernel_rfl)) (by kernel_rfl) (by kernel_rfl)

section
attribute [local irreducible] Tryz.prog callK
theorem markAll_calls {W : World} (hT : Tab W.heap) {xp rp : Option Addr} {xc rc : Nat} {l : List Th7} {roots : List Int} (ha : ThAt W.heap xp l) (hlw : ∀ x ∈ l, ∀ v ∈ x.2.2, I64 v) (hr : Src W.heap 1 rp roots.length rc (roots.map (Value.int .i64 ·))) :
    Calls Tryz.prog 3 #[.slice xp l.length xc, .slice rp roots.length rc] W fun e w' => e = .returned (.bool true) ∧ Below W.heap.size W w' := by
  refine calls_true (args := [.slice xp l.length xc, .slice rp roots.length rc]) Tryz.call3 ?_
  have := law7_MarkAll_C hT (xc := xc) ha hlw hr (K := fun b h' => b = true ∧ Fr noB W.heap h') fun h' hf => ⟨rfl, hf⟩
  unfold gantlinelaw7_MarkAll.C at this
  exact this
end

set_option maxRecDepth 100000 in
theorem markAll_lifted (os : Os) (started : os.Started) (H : Type) (enc : TypeId × Value → H) :
    ReturnsInHanded {} Tryz.checked os 3 .any (fun w args => (Rows.markAllSpec.pre enc Tryz.prog Tryz.f3 [] false w args ∧ laidMetH Tryz.prog tabL w) ∧ sizedMet enc Tryz.prog Tryz.f3 (OpenSpec.ofChange Rows.markAllSpec) false w args)
      (Rows.markAllSpec.post enc Tryz.prog Tryz.f3 false true false false) := by
  refine returnsInHanded_of_change_and (C := Tryz.checked) (X := fun w _ => laidMetH Tryz.prog tabL w) (fun _ _ _ hh h => h.of_heap hh) own started (by kernel_rfl) Tryz.func3
    (ChangeSpec.witness_shaped (enc := enc) (C := Tryz.checked) (os := os) (X := fun w _ => laidMetH Tryz.prog tabL w) false (World.doorLaid Tryz.prog 14 os) #[.slice none 0 0, .slice none 0 0] 8 rfl (World.shaped_of_RefB (by kernel_rfl) (by kernel_rfl)) (by kernel_rfl) (by kernel_rfl) (by kernel_rfl) (door_met os _)) ?_
  intro W base args ds gs before hval0 hW _ _ hL _
  have hval : ∀ (j : Nat) t v, Tryz.f3.params[j]? = some t → args[j]? = some v → Value.okWide Tryz.prog W .any base t v := hval0
  have hW' := hW
  obtain ⟨p, q, hA0, hV, rfl, _, _⟩ := hW
  have hA : DataW.TrodAll enc Tryz.prog W 0 (fun _ => true) true Tryz.f3.params.toList args.toList ds p := hA0
  rw [Tryz.params3] at hA hval
  obtain ⟨v0, v1, d0, d1, p0, p1, rfl, rfl, rfl, h0, h1⟩ := trodAll_two hA
  obtain ⟨rfl, rfl⟩ := trodVars_none hV
  have h0k := h0
  have h1k := h1
  obtain ⟨m0, e0⟩ := h0
  obtain ⟨m1, e1⟩ := h1
  obtain ⟨xp, xc, l, c0, hth, hlw⟩ := rd_things e0
  obtain ⟨rp, rc, roots, c1, hsr, hrw⟩ := rd_ints ty_ints ty_int cInt e1
  obtain ⟨a0, l0, k0, rfl⟩ := okWide_slice Tryz.underlying22 (hval 0 22 v0 rfl rfl)
  obtain ⟨a1, l1, k1, rfl⟩ := okWide_slice Tryz.underlying23 (hval 1 23 v1 rfl rfl)
  have q0 : Value.slice a0 l0 k0 = .slice xp l.length xc := (List.cons.inj c0).1
  have q1 : Value.slice a1 l1 k1 = .slice rp roots.length rc := (List.cons.inj c1).1
  cases q0
  cases q1
  refine (markAll_calls (tab_of_laid hL) hth hlw hsr).mono fun e W' ⟨he, hb⟩ => ?_
  subst he
  have hlt : ∀ x ∈ p0 ++ p1, x.block < W.heap.size := fun x hx => by simpa using hW'.lt x (by simp only [List.append_nil]; exact hx)
  refine ⟨_, rfl, ⟨_, _, _, [], _, [], hW', trodAll_mk1 (shut_bool Tryz.underlying4 true), trodAll_mk2 (Below.trod laidOut (by kernel_rfl) (of_decide_eq_true (by kernel_rfl)) h0k hb fun x hx => hlt x (by simp [hx])) (Below.trod laidOut (by kernel_rfl) (of_decide_eq_true (by kernel_rfl)) h1k hb fun x hx => hlt x (by simp [hx])), rfl, hb.frame _, fun h => by cases h⟩⟩

theorem markAll_holds : Rows.MarkAllSaid :=
  OpenClaim.holds_of_wide 3 Tryz.f3 rfl rfl rfl rfl rfl rfl rfl ⟨rfl, rfl, rfl, rfl, rfl⟩ rfl rfl rfl rfl rfl (by kernel_rfl) Tryz.func3 (by kernel_rfl)
    (of_decide_eq_true (by kernel_rfl)) (by unfold Func.isWrapper; first | (rw [if_pos (by decide +kernel)]; kernel_rfl) | (rw [if_neg (by decide +kernel)]; exact ⟨rfl, rfl⟩))
    (fun os started H enc _ => markAll_lifted os started H enc)

theorem markAll_card : Rows.MarkAllCardSaid :=
  Claim7.holds_tied_plain_at .later [] [.data] true (true, "69f869d2508e27e0a4ca8559da83df44efe3a89f1df08c09541b3716b9b057ce") false
    markAll_holds (fun _ h => by cases h) (by kernel_rfl) (fun _ h => by cases h) markAll_row_tie rfl ⟨rfl, rfl⟩ (by kernel_rfl) rfl
    (fun f fn hf hfn => by
      obtain rfl : f = 3 := Option.some.inj ((show Tryz.prog.funcNamed "gantline/gantlinelaw7.MarkAll" = some 3 by kernel_rfl).symm.trans hf) |>.symm
      obtain rfl : fn = Tryz.f3 := (Option.some.inj (Tryz.func3.symm.trans hfn)).symm
      exact ⟨by kernel_rfl, fun j t ht => by
        rw [Tryz.params3] at ht
        have hm : t ∈ [22, 23] := by simpa using Array.mem_of_getElem? ht
        have hall : ([22, 23].all fun u => !Tryz.prog.wantsStandIn u) = true := by kernel_rfl
        exact (show Tryz.prog.wantsStandIn t = false by simpa using List.all_eq_true.1 hall t hm)⟩)
    (by kernel_rfl)
#print axioms markAll_card

end Go.Proofs.YtkfdbgpegekcfaaGreatDoor

/-
  A set's keys, sorted (KS): the library's contracts in this logic's words.
  The marker: what can be come to (C7).
  The reference's arena (R1): made, a thing found.
  The reference's arena (R2): a thing found, a place taken.
  The reference's arena (R3): a place taken.
  The reference's allocator (R4), none of its spans stale.
  The reference's allocator takes a place (R5), none of its spans stale.
  The reference's marker numbers a shape (R6); a marker made.
-/
import Derived.Test.YtkfdbgpegekcfaaGreatDoorXd
import Derived.Test.YtkfdbgpegekcfaaGreatDoorXh
import Derived.Test.YtkfdbgpegekcfaaGreatDoorXb

namespace Go.GL
/-- A call, out of a contract of the kit's. -/
theorem callK_calls {P : Program} {f : FuncId} {args : List Value} {t : TypeId} {s : Sh} {h : H} {K : CurL (shKs s.2) (H → Prop)} (hc : ∀ (args : Array Value) (w : World), (callFunc f args).run P w = .ok (.enter f args) w) (hs : shT P t = some s)
    (hw : ∀ w : World, w.heap = h → Calls P f ⟨args⟩ w fun e w' => ∃ v, e = .returned v ∧ Same w w' ∧ resK s K v w'.heap) : callK P f args t s h K := by
  intro w hw'
  rw [hc]
  subst hw'
  refine ⟨Same.refl w, ?_⟩
  have hw1 : CallsH P f ⟨args⟩ w.heap (resK s K) := hw
  exact CallsH.mono (fun _ _ hk => resK_apart hs hk) hw1
end Go.GL
namespace Go.Proofs.YtkfdbgpegekcfaaGreatDoorP
open Go Go.GL Go.GLM Go.Proofs Go.Maps Go.RowKit Go.Sort Go.Shelf

theorem sortsIn (m : Nat) : AnyZI.SortsIn Tryz.prog Tryz.sortedA_ren Fence.wide m :=
  ⟨fun blk off cap ss W hH hblk hsz => callsIn_wide.2 (AnyM.slices_Sort_int Tryz.sortA blk off cap ss W hH hblk hsz),
   fun p cap W => callsIn_wide.2 (AnyM.slices_Sort_int_none Tryz.sortA p cap W)⟩

theorem keys_calls (r : Nat) (w : World) : Calls Tryz.prog 51 #[.map (some r)] w fun e w' => e = .returned (.func (.func 112) #[] #[.pointer (some ⟨w.heap.size, 0, none⟩)]) ∧ w' = w.alloc (.cells #[.map (some r)] 101) :=
  callsIn_wide.1 (AnyZI.keys_in Tryz.keysA Fence.wide 5 trivial rfl (some r) w)

theorem sorted_calls (r nn : Nat) (D0 : DataW Unit) {R : Value → Option (DataW Unit × List MemPlace)} (w : World) (b : Nat) (hb : b < w.heap.size) (hc : w.cell? ⟨b, 0, none⟩ = some (.map (some r))) (hown : w.ownsMap Tryz.prog 2 R r nn D0)
    (hmax : Maps.size D0 ≤ maxLen) (hbytes : Maps.size D0 * 8 ≤ 140737488355328) :
    Calls Tryz.prog 50 #[.func (.func 112) #[] #[.pointer (some ⟨b, 0, none⟩)]] w fun e w' => ∃ (v : Value) (ss : List Int), e = .returned v ∧ ss.Perm (intKeys D0) ∧
      w'.ownsRow w.heap.size 2 1 v ss.length ((ss.mergeSort (fun x y => decide (x ≤ y))).map encZ) ∧ (v = .slice none 0 0 ↔ ss = []) ∧ RowKit.Below w.heap.size w w' := by
  have hseq : SeqGives Fence.wide 2 Tryz.prog 112 #[.pointer (some ⟨b, 0, none⟩)] encZ (fun ss => ss.Perm (intKeys D0)) (Maps.size D0) w :=
    AnyZI.keys_gives (ρ := Tryz.keysA_ren) { Tryz.keysA with } Fence.wide _ trivial rfl (by omega) b r nn D0 w hb hc hown
  exact callsIn_wide.1 (AnyZI.sorted_in Tryz.sortedA Fence.wide 5 trivial trivial trivial trivial rfl (by omega) (sortsIn _) Tryz.call111 112 #[.pointer (some ⟨b, 0, none⟩)] trivial Tryz.call112 _ _ hmax hbytes _ hseq)

theorem sorted_list {l : List Int} (hn : l.Nodup) : (∀ x, x ∈ l.mergeSort (fun x y => decide (x ≤ y)) ↔ x ∈ l) ∧ (l.mergeSort (fun x y => decide (x ≤ y))).Pairwise (· < ·) := by
  have hp := List.mergeSort_perm l (fun x y => decide (x ≤ y))
  have tr : ∀ a b c : Int, decide (a ≤ b) = true → decide (b ≤ c) = true → decide (a ≤ c) = true := fun a b c h1 h2 => by simp only [decide_eq_true_eq] at *; exact Int.le_trans h1 h2
  have to : ∀ a b : Int, (decide (a ≤ b) || decide (b ≤ a)) = true := fun a b => by simp only [Bool.or_eq_true, decide_eq_true_eq]; exact Int.le_total a b
  have hs := List.pairwise_mergeSort tr to l
  refine ⟨fun x => hp.mem_iff, ?_⟩
  refine (hs.and (hp.nodup_iff.2 hn)).imp fun {a b} h => ?_
  have h1 := h.1
  have h2 := h.2
  simp only [decide_eq_true_eq] at h1
  omega

theorem ty_i64 : Tryz.prog.underlying 2 = some (.int .i64) := by kernel_rfl

attribute [local irreducible] rawV rawN rawU Tryz.prog callK

theorem keysSorted_C {h : H} {Γ : List Asrt} {i r : Nat} {ss : List Int} (hs : Sat h Γ) (hi : Γ[i]? = some (setA Tryz.prog 2 4 r ss)) (hnd : ss.Nodup) (hl : ss.length ≤ 100000) {K : Option Addr → Nat → Nat → H → Prop}
    (hk : ∀ h' q c (l : List Int), Sat h' (Γ ++ [rowA 2 1 q l.length c (l.map (Value.int .i64 ·))]) → (∀ x, x ∈ l ↔ x ∈ ss) → l.Pairwise (· < ·) → K q l.length c h') :
    maps_Keys_map_int64_bool_int64_bool.C (some r) h (fun v h' => slices_Sorted_int64.C v h' (fun p n c h'' => K p n c h'')) := by
  obtain ⟨d, hm, hd⟩ := hs.at hi
  unfold maps_Keys_map_int64_bool_int64_bool.C
  refine callK_calls (s := (false, [(false, [.raw])])) Tryz.call51 (by kernel_rfl) ?_
  intro w hw
  refine Calls.mono (keys_calls r w) ?_
  rintro e w' ⟨rfl, rfl⟩
  refine ⟨_, rfl, Same.refl _, ?_⟩
  show slices_Sorted_int64.C (.func (.func 112) #[] #[.pointer (some ⟨w.heap.size, 0, none⟩)]) (w.heap.push (.cells #[.map (some r)] 101)) _
  subst hw
  have f1 : Fr noB w.heap (w.heap.push (.cells #[.map (some r)] 101)) := Fr.push _ _
  have b1 : Blk (w.heap.push (.cells #[.map (some r)] 101)) w.heap.size 101 [.map (some r)] := Blk.new _ _ _
  have s1 : (w.heap.push (.cells #[.map (some r)] 101)).size = w.heap.size + 1 := Array.size_push _
  have m1 := hm.loc (f1.2 _ hm.lt fun h => h)
  have hs1 := hs.fr f1
  generalize w.heap.push (.cells #[.map (some r)] 101) = g1 at *
  unfold slices_Sorted_int64.C
  refine callK_calls (s := (false, [(false, [.l])])) Tryz.call50 (by kernel_rfl) ?_
  intro w1 hw1
  subst hw1
  have hown := m1.to w1 rfl
  have hsz : Maps.size (zset ss) ≤ 100000 := Nat.le_trans hown.size_le hl
  refine Calls.mono (sorted_calls r _ (zset ss) w1 w.heap.size (by omega) (by have := b1.cell 0; exact this) hown (by simp only [maxLen]; omega) (by omega)) ?_
  rintro e w2 ⟨v, l, rfl, hperm, hrow, hnil, hb⟩
  obtain ⟨p, c, rfl, ho⟩ := OwnL.from hrow
  refine ⟨_, rfl, ⟨hb.tape, hb.os, hb.output⟩, ?_⟩
  have hp0 : ss.Perm (intKeys (zset ss)) := CollectedI.perm (left := fun _ => false) ⟨hnd, fun x => by rw [zset_has]; simp⟩ hown (int_keyed ty_i64) ty_i64 (fun _ => rfl)
  have hp1 : l.Perm ss := hperm.trans hp0.symm
  have hsl := sorted_list (hp1.nodup_iff.2 hnd)
  have f2 : Fr noB w1.heap w2.heap := ⟨hb.size, fun b hbb _ => hb.block b hbb⟩
  have hlen : (l.mergeSort fun x y => decide (x ≤ y)).length = l.length := List.length_mergeSort l
  show K p l.length c w2.heap
  rw [← hlen]
  refine hk w2.heap p c _ ?_ (fun x => (hsl.1 x).trans hp1.mem_iff) hsl.2
  refine (hs1.new f2 (d := blkOf p) ⟨?_, fun b => Iff.rfl⟩ fun b hbb => (OwnL.blk ho hbb).1)
  rw [hlen]
  exact (ho.mono (Nat.zero_le _)).o

end Go.Proofs.YtkfdbgpegekcfaaGreatDoorP

namespace Go.Proofs.YtkfdbgpegekcfaaGreatDoorP
open Go Go.GL Go.GLM Go.Proofs Go.Maps
attribute [local irreducible] rawV rawN rawU Tryz.prog

theorem ty_seen : Tryz.prog.underlying 101 = some (.map 2 4) := by kernel_rfl
theorem ty_bool : Tryz.prog.underlying 4 = some .bool := by kernel_rfl
theorem zero_bool (w : World) : (zeroValue 4).run Tryz.prog w = .ok (.bool false) w := by
  obtain ⟨i, hi, hzz⟩ := Option.map_eq_some_iff.1 in_bool
  simp only [Prod.mk.injEq] at hzz
  simp [zeroValue, typeInfo, hi, hzz.1]

/-- What has been seen and what is to be looked at, on the way. -/
structure ReachInv (a : Ar) (ts : List Shp) (roots todo seen : List Int) : Prop where
  nd : seen.Nodup
  sound : ∀ x ∈ seen, Rch a ts roots x
  from_ : ∀ x ∈ todo, a.is x = true → Rch a ts roots x
  roots_ : ∀ x ∈ roots, a.is x = true → x ∈ seen ∨ x ∈ todo
  closed : ∀ x ∈ seen, ∀ y ∈ fieldsOf a ts x, a.is y = true → y ∈ seen ∨ y ∈ todo
  len : todo.length ≤ roots.length + 64 * seen.length
  wf : ∀ x ∈ todo, -9223372036854775808 ≤ x ∧ x < 9223372036854775808

theorem ReachInv.start {a : Ar} {ts : List Shp} {roots : List Int} (hw : ∀ x ∈ roots, -9223372036854775808 ≤ x ∧ x < 9223372036854775808) : ReachInv a ts roots roots [] :=
  ⟨List.nodup_nil, fun x hx => by simp at hx, fun x hx hi => .root hx hi, fun x hx _ => .inr hx, fun x hx => by simp at hx, by simp, hw⟩

theorem ReachInv.seenLen {a : Ar} {ts : List Shp} {roots todo seen : List Int} (h : ReachInv a ts roots todo seen) : seen.length ≤ 32768 :=
  nodup_bound 32768 seen h.nd fun x hx => is_range (h.sound x hx).is

theorem ReachInv.skip {a : Ar} {ts : List Shp} {roots r seen : List Int} {x : Int} (h : ReachInv a ts roots (x :: r) seen) (hx : x ∈ seen ∨ a.is x = false) : ReachInv a ts roots r seen := by
  have drop : ∀ y, a.is y = true → y ∈ seen ∨ y ∈ x :: r → y ∈ seen ∨ y ∈ r := fun y hy h1 => by
    rcases h1 with h1 | h1
    · exact .inl h1
    · rcases List.mem_cons.1 h1 with rfl | h1
      · rcases hx with hx | hx
        · exact .inl hx
        · rw [hy] at hx; cases hx
      · exact .inr h1
  refine ⟨h.nd, h.sound, fun y hy => h.from_ y (by simp [hy]), fun y hy hi => drop y hi (h.roots_ y hy hi), fun y hy z hz hi => drop z hi (h.closed y hy z hz hi), ?_, fun y hy => h.wf y (by simp [hy])⟩
  have := h.len
  simp only [List.length_cons] at this
  omega

theorem ReachInv.take {a : Ar} {ts : List Shp} {roots r seen : List Int} {x : Int} (h : ReachInv a ts roots (x :: r) seen) (hx : x ∉ seen) (hi : a.is x = true) (hw : a.Wf) : ReachInv a ts roots (r ++ fieldsOf a ts x) (seen ++ [x]) := by
  have hr := h.from_ x (by simp) hi
  have grow : ∀ y, y ∈ seen ∨ y ∈ x :: r → y ∈ seen ++ [x] ∨ y ∈ r ++ fieldsOf a ts x := fun y h1 => by
    rcases h1 with h1 | h1
    · exact .inl (by simp [h1])
    · rcases List.mem_cons.1 h1 with rfl | h1
      · exact .inl (by simp)
      · exact .inr (by simp [h1])
  refine ⟨?_, ?_, ?_, fun y hy hyi => grow y (h.roots_ y hy hyi), ?_, ?_, ?_⟩
  · rw [List.nodup_append]
    exact ⟨h.nd, by simp, fun y hy z hz => by rw [List.mem_singleton.1 hz]; rintro rfl; exact hx hy⟩
  · intro y hy
    rcases List.mem_append.1 hy with h1 | h1
    · exact h.sound y h1
    · rw [List.mem_singleton.1 h1]; exact hr
  · intro y hy hyi
    rcases List.mem_append.1 hy with h1 | h1
    · exact h.from_ y (by simp [h1]) hyi
    · exact .step hr h1 hyi
  · intro y hy z hz hzi
    rcases List.mem_append.1 hy with h1 | h1
    · exact grow z (h.closed y h1 z hz hzi)
    · rw [List.mem_singleton.1 h1] at hz
      exact .inr (by simp [hz])
  · have := h.len
    have := fieldsOf_len a ts x
    simp only [List.length_cons, List.length_append, List.length_nil] at *
    omega
  · intro y hy
    rcases List.mem_append.1 hy with h1 | h1
    · exact h.wf y (by simp [h1])
    · exact hw.fields h1

theorem ReachInv.done {a : Ar} {ts : List Shp} {roots seen : List Int} (h : ReachInv a ts roots [] seen) (x : Int) : x ∈ seen ↔ Rch a ts roots x := by
  refine ⟨h.sound x, fun hr => ?_⟩
  induction hr with
  | root h1 h2 => simpa using h.roots_ _ h1 h2
  | step h1 h2 h3 ih => simpa using h.closed _ ih _ h2 h3

section
variable {h : H} {Γ Δ : List Asrt} {m : MkP} {a a' : Ar} {ts : List Shp} {xs xs' : List Int}

theorem is_C {p : Int} (hs : Sat h Γ) {i A B W : Nat} (hi : Γ[i]? = some (arA A B W a)) {K : Bool → H → Prop} (hk : K (a.is p) h) : arena_Arena_Is.C (some ⟨A, 0, none⟩) p h K := arena_Is_C (arA_at hs hi) hk

theorem mark_Reach_C (hs : Sat h Γ) (hm : MkAt Γ m a ts xs) (hts : ∀ s ∈ ts, s.2.2 < 2 ^ 64) (haw : a.Wf) {p : Option Addr} {n c : Nat} {roots : List Int} (hq : Src h 1 p n c (roots.map (Value.int .i64 ·))) (hn : n ≤ 100000)
    (hw : ∀ x ∈ roots, -9223372036854775808 ≤ x ∧ x < 9223372036854775808) {K : Option Addr → Nat → Nat → H → Prop}
    (hk : ∀ h' q c' (l : List Int), Sat h' (Γ ++ [rowA 2 1 q l.length c' (l.map (Value.int .i64 ·))]) → (∀ x, x ∈ l ↔ Rch a ts roots x) → l.Pairwise (· < ·) → K q l.length c' h') :
    mark_Marker_Reach.C (some ⟨m.M, 0, none⟩) p n c h K := by
  refine mark_Marker_Reach.of ?_
  unfold mark_Marker_Reach.S
  have hnl : n = roots.length := by have := hq.1; simp at this; omega
  refine setNew_of (e := 4) (k := 2) hs fun g1 f1 hs1 => ⟨_, rfl, ?_⟩
  have fr1 : Src g1 1 p n c (roots.map (Value.int .i64 ·)) := hq.fr fun a v hc => Fr.cell f1 hc
  refine clone_C hs1 fr1 (by omega) fun g2 q c1 hs2 => ?_
  rw [List.append_assoc] at hs2
  generalize h.size = r at *
  refine loop_rel (fun s h' k => ∃ todo seen c', s.1 = (s.1.1, (todo.length, c')) ∧ ReachInv a ts roots todo seen ∧ k = (32768 - seen.length) * 64 + todo.length ∧
      Sat h' (Γ ++ [setA Tryz.prog 2 4 r seen, rowA 2 1 s.1.1 todo.length c' (todo.map (Value.int .i64 ·))])) _ ⟨roots, [], c1, rfl, .start hw, rfl, hs2⟩ ?_
  rintro ⟨⟨q, n', c'⟩, _⟩ g k ⟨todo, seen, c2, he, hinv, hkk, hs3⟩ J hJ
  simp only [Prod.mk.injEq, true_and] at he
  obtain ⟨rfl, rfl⟩ := he
  simp only at hs3 ⊢
  have e0 : (Γ ++ [setA Tryz.prog 2 4 r seen, rowA 2 1 q todo.length c' (todo.map (Value.int .i64 ·))])[Γ.length + 0]? = some (setA Tryz.prog 2 4 r seen) := at_end
  have e1 : (Γ ++ [setA Tryz.prog 2 4 r seen, rowA 2 1 q todo.length c' (todo.map (Value.int .i64 ·))])[Γ.length + 1]? = some (rowA 2 1 q todo.length c' (todo.map (Value.int .i64 ·))) := at_end
  have hsl := hinv.seenLen
  have htl := hinv.len
  refine split_of (fun h1 => ?_) fun h1 => ?_
  · simp at h1
    match todo, h1 with
    | x :: t, _ =>
    have hwx := hinv.wf x (by simp)
    refine rowA_idx hs3 e1 (x := .int .i64 x) (by decide) (by simp) fun ad had => ldI_of had ?_
    refine rowTail_of hs3 e1 fun q2 hs4 => ?_
    rw [set_end] at hs4
    have e0' : (Γ ++ [setA Tryz.prog 2 4 r seen, rowA 2 1 q2 t.length (c' - 1) (t.map (Value.int .i64 ·))])[Γ.length + 0]? = some (setA Tryz.prog 2 4 r seen) := at_end
    refine setLook_of hs4 e0' ty_seen ty_i64 ty_bool zero_bool (wfI hwx.1 hwx.2) ⟨_, rfl, split_of (fun h2 => ?_) fun h2 => ?_⟩
    · have hx : x ∉ seen := by simpa using h2
      refine nP (hm.app.at hs4) rfl (is_C hs4 (at_app hm.ar) (split_of (fun h3 => ?_) fun h3 => ?_))
      · refine setPut_of hs4 e0' ty_seen ty_i64 ty_bool (by simp only [maxLen]; omega) (wfI hwx.1 hwx.2) fun g3 hs5 => ?_
        rw [set_end] at hs5
        refine mark_Fields_C hs5 hm.app hts fun g4 q3 c3 hs6 => ?_
        rw [List.append_assoc] at hs6
        have e3 : (Γ ++ ([setA Tryz.prog 2 4 r (seen ++ [x]), rowA 2 1 q2 t.length (c' - 1) (t.map (Value.int .i64 ·))] ++ [rowA 2 1 q3 (fieldsOf a ts x).length c3 ((fieldsOf a ts x).map (Value.int .i64 ·))]))[Γ.length + 1]? = some (rowA 2 1 q2 t.length (c' - 1) (t.map (Value.int .i64 ·))) := at_end
        have e4 : (Γ ++ ([setA Tryz.prog 2 4 r (seen ++ [x]), rowA 2 1 q2 t.length (c' - 1) (t.map (Value.int .i64 ·))] ++ [rowA 2 1 q3 (fieldsOf a ts x).length c3 ((fieldsOf a ts x).map (Value.int .i64 ·))]))[Γ.length + 2]? = some (rowA 2 1 q3 (fieldsOf a ts x).length c3 ((fieldsOf a ts x).map (Value.int .i64 ·))) := at_end
        have hfl := fieldsOf_len a ts x
        have hinv' := hinv.take hx h3 haw
        have hsl' := hinv'.seenLen
        simp only [List.length_cons, List.length_append, List.length_nil] at htl hsl' hkk
        refine rowApp_of ty_words in_word int_one (by decide) hs6 e3 (rowA_at hs6 e4).src (by intro u hu; obtain ⟨y, _, rfl⟩ := List.mem_map.1 hu; rfl) (by simp only [maxLen]; omega) (by omega) fun q4 c4 g5 hs7 => ⟨_, _, _, rfl, ?_⟩
        rw [set_end] at hs7
        refine hJ _ _ ((32768 - (seen ++ [x]).length) * 64 + (t ++ fieldsOf a ts x).length) (by simp only [List.length_append, List.length_cons, List.length_nil]; omega) ⟨t ++ fieldsOf a ts x, seen ++ [x], c4, by rw [List.length_append], hinv', rfl, ?_⟩
        rw [List.length_append, List.map_append]
        have : Sat g5 ((Γ ++ [setA Tryz.prog 2 4 r (seen ++ [x]), rowA 2 1 q4 (t.length + (fieldsOf a ts x).length) c4 (t.map (Value.int .i64 ·) ++ (fieldsOf a ts x).map (Value.int .i64 ·))]) ++ [rowA 2 1 q3 (fieldsOf a ts x).length c3 ((fieldsOf a ts x).map (Value.int .i64 ·))]) := by simpa using hs7
        exact this.init
      · exact hJ _ _ _ (by simp only [List.length_cons] at hkk; omega) ⟨t, seen, c' - 1, rfl, hinv.skip (.inr h3), rfl, hs4⟩
    · exact hJ _ _ _ (by simp only [List.length_cons] at hkk; omega) ⟨t, seen, c' - 1, rfl, hinv.skip (.inl (by simpa using h2)), rfl, hs4⟩
  · simp at h1
    subst h1
    have hs4 : Sat g (Γ ++ [setA Tryz.prog 2 4 r seen]) := by
      have : Sat g ((Γ ++ [setA Tryz.prog 2 4 r seen]) ++ [rowA 2 1 q ([] : List Int).length c' (([] : List Int).map (Value.int .i64 ·))]) := by simpa using hs3
      exact this.init
    have e2 : (Γ ++ [setA Tryz.prog 2 4 r seen])[Γ.length + 0]? = some (setA Tryz.prog 2 4 r seen) := at_end
    refine keysSorted_C hs4 e2 hinv.nd (by omega) fun g5 q5 c5 l hs5 hl hp => hk g5 q5 c5 l ?_ (fun x => (hl x).trans (hinv.done x)) hp
    refine hs5.sub (fun i => if i < Γ.length then i else i + 1) (fun i j hi hj h => ?_) fun i hi => ?_
    · split at h <;> split at h <;> omega
    · simp only [List.length_append, List.length_cons, List.length_nil] at hi
      by_cases hl : i < Γ.length
      · rw [if_pos hl, List.getElem?_append_left hl, List.append_assoc, List.getElem?_append_left hl]
      · rw [if_neg hl]
        obtain rfl : i = Γ.length := by omega
        have ea : ∀ X, (Γ ++ [X])[Γ.length + 0]? = some X := fun X => at_end
        have eb : ∀ X Y, ((Γ ++ [Y]) ++ [X])[Γ.length + 1]? = some X := fun X Y => by rw [List.append_assoc]; exact at_end
        exact (eb _ _).trans (ea _).symm

end
end Go.Proofs.YtkfdbgpegekcfaaGreatDoorP

namespace Go.Proofs.YtkfdbgpegekcfaaGreatDoorP
open Go Go.GL Go.GLM Go.Proofs Go.Maps
attribute [local irreducible] rawV rawN rawU Tryz.prog

/-- A thing: its address, its words, whether it is marked. -/
structure Thg where
  (at_ : Int) (w : List Int) (mkd : Bool)

/-- The reference's arena. -/
structure Rf where
  (cl : List Int) (l : List Thg)

def thC : List (Nat × Thg) → List Value
  | [] => []
  | x :: r => .int .i64 x.2.at_ :: .slice (some ⟨x.1, 0, none⟩) x.2.w.length x.2.w.length :: .bool x.2.mkd :: thC r

theorem thC_len (l : List (Nat × Thg)) : (thC l).length = l.length * 3 := by
  induction l with
  | nil => rfl
  | cons s r ih => simp only [thC, List.length_cons, ih]; omega

theorem thC_append (l r : List (Nat × Thg)) : thC (l ++ r) = thC l ++ thC r := by
  induction l with
  | nil => rfl
  | cons s l ih => simp only [thC, List.cons_append, ih]

theorem thC_take (l : List (Nat × Thg)) (k : Nat) : (thC l).take (k * 3) = thC (l.take k) := by
  induction l generalizing k with
  | nil => simp [thC]
  | cons s l ih =>
    cases k with
    | zero => simp [thC]
    | succ k => rw [show (k + 1) * 3 = k * 3 + 1 + 1 + 1 from by omega]; simp only [thC, List.take_succ_cons, ih]

theorem thC_drop (l : List (Nat × Thg)) (k : Nat) : (thC l).drop (k * 3) = thC (l.drop k) := by
  induction l generalizing k with
  | nil => simp [thC]
  | cons s l ih =>
    cases k with
    | zero => simp [thC]
    | succ k => rw [show (k + 1) * 3 = k * 3 + 1 + 1 + 1 from by omega]; simp only [thC, List.drop_succ_cons, ih]

theorem thC_get {l : List (Nat × Thg)} {i : Nat} {s : Nat × Thg} (hi : l[i]? = some s) :
    (thC l)[i * 3]? = some (.int .i64 s.2.at_) ∧ (thC l)[i * 3 + 1]? = some (.slice (some ⟨s.1, 0, none⟩) s.2.w.length s.2.w.length) ∧ (thC l)[i * 3 + 2]? = some (.bool s.2.mkd) := by
  induction l generalizing i with
  | nil => simp at hi
  | cons a r ih =>
    cases i with
    | zero => simp at hi; subst hi; exact ⟨rfl, rfl, rfl⟩
    | succ i =>
      have := ih (i := i) (by simpa using hi)
      rw [show (i + 1) * 3 = i * 3 + 1 + 1 + 1 from by omega]
      exact this

theorem thC_one {l : List (Nat × Thg)} : ∀ u ∈ thC l, u.oneCell' = true := by
  induction l with
  | nil => intro u hu; simp [thC] at hu
  | cons s l ih =>
    intro u hu
    simp only [thC, List.mem_cons] at hu
    rcases hu with rfl | rfl | rfl | hu
    · rfl
    · rfl
    · rfl
    · exact ih u hu

/-- The things' own blocks. -/
def thW (xs : List (Nat × Thg)) : List (Nat × List Value) := xs.map fun x => (x.1, x.2.w.map (Value.int .i64 ·))

/-- The reference's arena as a part: its block, its classes' row, its things' row, the things' blocks. -/
abbrev RfT := List (Nat × Thg) × Option Addr × Nat × Option Addr × Nat
def rfV (R : Rf) (t : RfT) : List Value := [.slice t.2.1 R.cl.length t.2.2.1, .slice t.2.2.2.1 t.1.length t.2.2.2.2]
def rfA (X : Nat) (R : Rf) : Asrt :=
  exA fun t : RfT => andA (R.l = t.1.map (·.2)) (sepA (sepA (sepA (blkA X 160 (rfV R t)) (wsA 2 (thW t.1)))
    (rowA 172 3 t.2.2.2.1 t.1.length t.2.2.2.2 (thC t.1))) (rowA 3 1 t.2.1 R.cl.length t.2.2.1 (R.cl.map (Value.int .i64 ·))))

section
variable {h : H} {Γ : List Asrt} {i X : Nat} {R : Rf}

/-- The parts of the reference's arena. -/
def rfParts (R : Rf) (t : RfT) : List Asrt := [rowA 3 1 t.2.1 R.cl.length t.2.2.1 (R.cl.map (Value.int .i64 ·)), rowA 172 3 t.2.2.2.1 t.1.length t.2.2.2.2 (thC t.1), wsA 2 (thW t.1)]

theorem rfA_open (hs : Sat h Γ) (hi : Γ[i]? = some (rfA X R)) : ∃ t : RfT, R.l = t.1.map (·.2) ∧ Sat h (Γ.set i (blkA X 160 (rfV R t)) ++ rfParts R t) := by
  obtain ⟨t, h1⟩ := hs.open_ hi
  obtain ⟨ht, h2⟩ := h1.andOpen (at_set hi)
  refine ⟨t, ht, ?_⟩
  rw [List.set_set] at h2
  have h3 := h2.split (at_set hi)
  rw [List.set_set] at h3
  have h4 := h3.split (at_app (at_set hi))
  rw [set_app (at_set hi), List.set_set] at h4
  have h5 := h4.split (at_app (at_app (at_set hi)))
  rw [set_app (at_app (at_set hi)), set_app (at_set hi), List.set_set] at h5
  simpa [rfParts] using h5

theorem rfA_close {t : RfT} {vs : List Value} (ht : R.l = t.1.map (·.2)) (hv : vs = rfV R t) (hi : Γ[i]? = some (blkA X 160 vs)) (hs : Sat h (Γ ++ rfParts R t)) : Sat h (Γ.set i (rfA X R)) := by
  subst hv
  have h0 : Sat h (((Γ ++ [rowA 3 1 t.2.1 R.cl.length t.2.2.1 (R.cl.map (Value.int .i64 ·))]) ++ [rowA 172 3 t.2.2.2.1 t.1.length t.2.2.2.2 (thC t.1)]) ++ [wsA 2 (thW t.1)]) := by simpa [rfParts] using hs
  have h1 := h0.join (at_app (at_app hi))
  rw [set_app (at_app hi), set_app hi] at h1
  have h2 := h1.join (at_app (at_set hi))
  rw [set_app (at_set hi), List.set_set] at h2
  have h3 := h2.join (at_set hi)
  rw [List.set_set] at h3
  have h4 := h3.andClose ht (at_set hi)
  rw [List.set_set] at h4
  have h5 := h4.close (F := fun t : RfT => andA (R.l = t.1.map (·.2)) (sepA (sepA (sepA (blkA X 160 (rfV R t)) (wsA 2 (thW t.1)))
    (rowA 172 3 t.2.2.2.1 t.1.length t.2.2.2.2 (thC t.1))) (rowA 3 1 t.2.1 R.cl.length t.2.2.1 (R.cl.map (Value.int .i64 ·))))) t (at_set hi)
  rw [List.set_set] at h5
  exact h5

theorem ty_ints : Tryz.prog.underlying 23 = some (.slice 3) := by kernel_rfl

theorem ref4_NewArena_C (hs : Sat h Γ) {n : Nat} (hn : n ≤ 1000) {K : Option Addr → H → Prop} (hk : ∀ h' X, Sat h' (Γ ++ [rfA X ⟨List.replicate n (-1), []⟩]) → K (some ⟨X, 0, none⟩) h') : gantlineref4_NewArena.C (n : Int) h K := by
  refine gantlineref4_NewArena.of ?_
  unfold gantlineref4_NewArena.S
  refine nW fun g1 f1 s1 b1 => ?_
  have hs1 := (hs.blkNew f1 b1).rowNil 3 1
  rw [List.append_assoc] at hs1
  generalize h.size = X at *
  refine loop_of (fun t h' => 0 ≤ t.1 ∧ t.1 ≤ n ∧ ∃ p c, Sat h' (Γ ++ [blkA X 160 [.slice p t.1.toNat c, .slice none 0 0], rowA 3 1 p t.1.toNat c ((List.replicate t.1.toNat (-1)).map (Value.int .i64 ·))])) (fun t _ => (n - t.1).toNat) ⟨by simp, by simp, none, 0, hs1⟩ ?_
  rintro ⟨k, _⟩ h' ⟨h0, h1, p, c, hs2⟩
  simp only at h0 h1 hs2 ⊢
  have e0 : (Γ ++ [blkA X 160 [.slice p k.toNat c, .slice none 0 0], rowA 3 1 p k.toNat c ((List.replicate k.toNat (-1)).map (Value.int .i64 ·))])[Γ.length + 0]? = some (blkA X 160 [.slice p k.toNat c, .slice none 0 0]) := at_end
  have e1 : (Γ ++ [blkA X 160 [.slice p k.toNat c, .slice none 0 0], rowA 3 1 p k.toNat c ((List.replicate k.toNat (-1)).map (Value.int .i64 ·))])[Γ.length + 1]? = some (rowA 3 1 p k.toNat c ((List.replicate k.toNat (-1)).map (Value.int .i64 ·))) := at_end
  refine split_of (fun h2 => ?_) fun h2 => ?_
  · simp at h2
    refine nL (blkA_at hs2 e0) rfl (nW fun g2 f2 s2 b2 => ?_)
    refine rowApp_of ty_ints in_int int_one (by decide) (hs2.fr f2) e1 (src_one b2) (by intro u hu; rw [List.mem_singleton.1 hu]; rfl) (by simp only [maxLen]; omega) (by omega) fun p' c' g3 hs3 => ⟨_, _, _, rfl, ?_⟩
    rw [set_end] at hs3
    have e2 : (Γ ++ [blkA X 160 [.slice p k.toNat c, .slice none 0 0], rowA 3 1 p k.toNat c ((List.replicate k.toNat (-1)).map (Value.int .i64 ·))].set 1 (rowA 3 1 p' (k.toNat + 1) c' ((List.replicate k.toNat (-1)).map (Value.int .i64 ·) ++ [Value.int .i64 (-1)])))[Γ.length + 0]? = some (blkA X 160 [.slice p k.toNat c, .slice none 0 0]) := at_end
    refine nSt (blkA_at hs3 e2) (by simp) fun g4 f4 b4 => ?_
    have hs4 := hs3.blkSet e2 f4 b4
    rw [set_end] at hs4
    rw [wrap64_id (by omega) (by omega)]
    refine ⟨⟨by omega, by omega, p', c', ?_⟩, by omega⟩
    rw [show (k + 1).toNat = k.toNat + 1 from by omega, List.replicate_succ', List.map_append]
    exact hs4
  · simp at h2
    obtain rfl : k = n := by omega
    rw [Int.toNat_natCast] at hs2 e0
    refine hk h' X ?_
    have hs5 : Sat h' (((Γ ++ [blkA X 160 [.slice p n c, .slice none 0 0]]) ++ [rowA 3 1 p n c ((List.replicate n (-1)).map (Value.int .i64 ·))])) := by simpa using hs2
    -- the nil row of things, no blocks
    have hs6 := (hs5.rowNil 172 3).new (Fr.refl noB h') (A := wsA 2 []) (d := fun _ => False) ⟨List.nodup_nil, fun x hx => by simp at hx, fun b => by simp⟩ fun b hb => hb.elim
    have hs7 : Sat h' ((Γ ++ [blkA X 160 [.slice p n c, .slice none 0 0]]) ++ rfParts ⟨List.replicate n (-1), []⟩ ([], p, c, none, 0)) := by simpa [rfParts, thW, thC] using hs6
    have := rfA_close (R := ⟨List.replicate n (-1), []⟩) (t := ([], p, c, none, 0)) (i := Γ.length + 0) rfl (by simp [rfV]) at_end hs7
    rw [set_end] at this
    exact this

end
end Go.Proofs.YtkfdbgpegekcfaaGreatDoorP

namespace Go.Proofs.YtkfdbgpegekcfaaGreatDoorP
open Go Go.GL Go.GLM Go.Proofs Go.Maps
attribute [local irreducible] rawV rawN rawU Tryz.prog

/-- The reference's arena as it lies. -/
structure RfO (h : H) (X : Nat) (R : Rf) (t : RfT) : Prop where
  own : Blk h X 160 (rfV R t)
  cls : OwnO h 0 3 1 t.2.1 R.cl.length t.2.2.1 (R.cl.map (Value.int .i64 ·))
  things : OwnO h 0 172 3 t.2.2.2.1 t.1.length t.2.2.2.2 (thC t.1)
  words : ∀ x ∈ t.1, Blk h x.1 2 (x.2.w.map (Value.int .i64 ·))

section
variable {h : H} {Γ : List Asrt} {i X : Nat} {R : Rf}

theorem rf_facts {t : RfT} (hi : Γ[i]? = some (blkA X 160 (rfV R t))) (hs : Sat h (Γ ++ rfParts R t)) : RfO h X R t :=
  ⟨blkA_at hs (at_app hi), rowA_at hs (i := Γ.length + 0) at_end, rowA_at hs (i := Γ.length + 1) at_end,
   fun x hx => wsA_at hs (i := Γ.length + 2) at_end (x := (x.1, x.2.w.map (Value.int .i64 ·))) (List.mem_map.2 ⟨x, hx, rfl⟩)⟩

theorem rfA_at (hs : Sat h Γ) (hi : Γ[i]? = some (rfA X R)) : ∃ t : RfT, R.l = t.1.map (·.2) ∧ RfO h X R t := by
  obtain ⟨t, ht, h1⟩ := rfA_open hs hi
  exact ⟨t, ht, rf_facts (at_set hi) h1⟩

/-- A thing of the row. -/
theorem thing_idx {p : Option Addr} {n c : Nat} {xs : List (Nat × Thg)} (ho : OwnO h 0 172 3 p n c (thC xs)) {j : Int} (h0 : 0 ≤ j) {s : Nat × Thg} (hj : xs[j.toNat]? = some s) {K : Addr → Prop}
    (hk : ∀ g o, cell h ⟨g, o, none⟩ = some (.int .i64 s.2.at_) → cell h ⟨g, o + 1, none⟩ = some (.slice (some ⟨s.1, 0, none⟩) s.2.w.length s.2.w.length) → cell h ⟨g, o + 2, none⟩ = some (.bool s.2.mkd) → K ⟨g, o, none⟩) : idx p n j 3 K := by
  have hlt := (List.getElem?_eq_some_iff.1 hj).1
  have hl := ho.1
  rw [thC_len] at hl
  obtain ⟨e1, e2, e3⟩ := thC_get hj
  rcases ho.2 with ⟨_, _, h2⟩ | ⟨g, o, cur, rfl, _⟩
  · omega
  · refine idx_of h0 (by omega) (hk _ _ ?_ ?_ ?_)
    · rw [ho.cell (by omega)]; exact e1
    · rw [Nat.add_assoc, ho.cell (by omega)]; exact e2
    · rw [Nat.add_assoc, ho.cell (by omega)]; exact e3

def Rf.find (R : Rf) (x : Int) : Int := match R.l.findIdx? (fun t => t.at_ == x) with
  | some j => (j : Nat)
  | none => -1
def Rf.has (R : Rf) (x : Int) : Bool := R.l.any (fun t => t.at_ == x)

theorem Rf.find_neg {R : Rf} {x : Int} : R.find x < 0 ↔ R.has x = false := by
  unfold Rf.find Rf.has
  cases h : R.l.findIdx? (fun t => t.at_ == x) with
  | none =>
    simp only [List.findIdx?_eq_none_iff] at h
    constructor
    · intro _
      simpa using h
    · intro _; show (-1 : Int) < 0; decide
  | some j =>
    simp only
    rw [List.findIdx?_eq_some_iff_getElem] at h
    obtain ⟨hj, h1, _⟩ := h
    constructor
    · intro h2; omega
    · intro h2
      rw [List.any_eq_false] at h2
      exact absurd h1 (h2 _ (List.getElem_mem hj))

theorem ref4_Find_C (hs : Sat h Γ) (hi : Γ[i]? = some (rfA X R)) (hlen : R.l.length ≤ 1000000) {x : Int} {K : Int → H → Prop} (hk : K (R.find x) h) : gantlineref4_Arena_Find.C (some ⟨X, 0, none⟩) x h K := by
  refine gantlineref4_Arena_Find.of ?_
  unfold gantlineref4_Arena_Find.S
  obtain ⟨t, ht, ho⟩ := rfA_at hs hi
  have hl : R.l.length = t.1.length := by rw [ht, List.length_map]
  refine loop_of (fun s h' => h' = h ∧ 0 ≤ s.1 ∧ s.1 ≤ t.1.length ∧ ∀ j : Nat, (j : Int) < s.1 → ∀ y, R.l[j]? = some y → y.at_ ≠ x) (fun s _ => (t.1.length - s.1).toNat) ⟨rfl, by simp, by simp, fun j hj => by simp at hj; omega⟩ ?_
  rintro ⟨k, _⟩ h' ⟨rfl, h0, h1, hall⟩
  simp only at h0 h1 hall ⊢
  refine nL ho.own rfl (split_of (fun h2 => ?_) fun h2 => ?_)
  · simp at h2
    have hkt : k.toNat < t.1.length := by omega
    refine nL ho.own rfl (thing_idx ho.things h0 (s := t.1[k.toNat]) (by simp [hkt]) fun g o c1 c2 c3 => ?_)
    simp only [add_mk, Nat.add_zero]
    have hy : R.l[k.toNat]? = some t.1[k.toNat].2 := by rw [ht, List.getElem?_map]; simp [hkt]
    refine ldI_of c1 (split_of (fun h3 => ?_) fun h3 => ?_)
    · have h3' : t.1[k.toNat].2.at_ = x := by simpa using h3
      have : R.find x = k := by
        unfold Rf.find
        have e : R.l.findIdx? (fun t => t.at_ == x) = some k.toNat := by
          rw [List.findIdx?_eq_some_iff_getElem]
          have hkl : k.toNat < R.l.length := by omega
          refine ⟨hkl, ?_, fun j hj => ?_⟩
          · have := (List.getElem?_eq_some_iff.1 hy).2
            rw [this]; simpa using h3'
          · have := hall j (by omega) _ (List.getElem?_eq_some_iff.2 ⟨by omega, rfl⟩)
            simpa using this
        rw [e]
        show ((k.toNat : Nat) : Int) = k
        omega
      rw [this] at hk
      exact hk
    · rw [wrap64_id (by omega) (by omega)]
      refine ⟨⟨by first | rfl | trivial, by omega, by omega, fun j hj y hjy => ?_⟩, by omega⟩
      by_cases e : j = k.toNat
      · subst e
        rw [hy] at hjy
        cases hjy
        simpa using h3
      · exact hall j (by omega) y hjy
  · simp at h2
    have : R.find x = -1 := by
      unfold Rf.find
      have e : R.l.findIdx? (fun t => t.at_ == x) = none := by
        rw [List.findIdx?_eq_none_iff]
        intro y hy
        obtain ⟨j, hj⟩ := List.getElem?_of_mem hy
        have := (List.getElem?_eq_some_iff.1 hj).1
        simpa using hall j (by omega) y hj
      rw [e]
    rw [this] at hk
    exact hk

theorem ty_things : Tryz.prog.underlying 158 = some (.slice 172) := by kernel_rfl
theorem in_thing : (Tryz.prog.info? 172).map (fun i => (i.zero, i.size, i.bytes)) = some (some (.agg #[.int .i64 0, .slice none 0 0, .bool false]), 3, 40) := by kernel_rfl

/-- The arena with a thing put in at some place of its list. -/
def Rf.ins (R : Rf) (k : Nat) (s : Thg) : Rf := ⟨R.cl, R.l.take k ++ s :: R.l.drop k⟩

theorem take_tail (hs : Sat h Γ) (hi : Γ[i]? = some (rfA X R)) (hlen : R.l.length ≤ 1000000) {x c : Int} {k : Nat} (hk : k ≤ R.l.length) {K : Int → H → Prop}
    (hK : ∀ h', Sat h' (Γ.set i (rfA X (R.ins k ⟨x, List.replicate (wds c).toNat 0, false⟩))) → K x h') :
    newC h [] 172 (fun a34 h35 => nilC (some ⟨X, 0, none⟩) (fun a36 => ldL h35 (Addr.add a36 1) (fun p37 k38 k39 => slc p37 k38 k39 3 none (some (k : Int)) (fun p40 k41 k42 => rawN Tryz.prog (builtin .append #[158, 158] 158 #[false, false] #[(.slice (some a34) 0 0), (.slice p40 k41 k42)]) h35 (fun v43 h44 => exL v43 (fun p45 k46 k47 => gantlineref1_Words.C c h44 (fun n50 h49 => rawV Tryz.prog (Instr.makeSlice 28 (.int .i64 n50) (.int .i64 n50)) h49 (fun v51 h52 => exL v51 (fun p53 k54 k55 => newC h52 [(.int .i64 x), (.slice p53 k54 k55), (.bool false)] 172 (fun a56 h57 => rawN Tryz.prog (builtin .append #[158, 158] 158 #[false, false] #[(.slice p45 k46 k47), (.slice (some a56) 1 1)]) h57 (fun v58 h59 => exL v58 (fun p60 k61 k62 => nilC (some ⟨X, 0, none⟩) (fun a63 => ldL h59 (Addr.add a63 1) (fun p64 k65 k66 => slc p64 k65 k66 3 (some (k : Int)) none (fun p67 k68 k69 => rawN Tryz.prog (builtin .append #[158, 158] 158 #[false, false] #[(.slice p60 k61 k62), (.slice p67 k68 k69)]) h59 (fun v70 h71 => exL v70 (fun p72 k73 k74 => nilC (some ⟨X, 0, none⟩) (fun a75 => stC h71 (Addr.add (Addr.add a75 1) 0) (.slice p72 k73 k74) (fun h76 => K x h76))))))))))))))))))) := by
  obtain ⟨t, ht, hs0⟩ := rfA_open hs hi
  have hl : R.l.length = t.1.length := by rw [ht, List.length_map]
  have hi0 : (Γ.set i (blkA X 160 (rfV R t)))[i]? = some (blkA X 160 (rfV R t)) := at_set hi
  generalize hΔ : Γ.set i (blkA X 160 (rfV R t)) = Δ at *
  refine nW fun g1 f1 s1 b1 => ?_
  have hs1 := (hs0.fr f1)
  have o1 := rf_facts hi0 hs1
  refine nL o1.own rfl (slcTake_of o1.things (by omega) fun hsrc => ?_)
  rw [thC_take] at hsrc
  have hs2 := hs0.rowNew (e := 172) (size := 3) (n := 0) f1 b1 rfl (Nat.zero_le _)
  have e2 : ((Δ ++ rfParts R t) ++ [rowA 172 3 (some ⟨h.size, 0, none⟩) 0 0 []])[(Δ ++ rfParts R t).length + 0]? = some (rowA 172 3 (some ⟨h.size, 0, none⟩) 0 0 []) := at_end
  refine rowApp_of ty_things in_thing rfl (by decide) hs2 e2 hsrc thC_one (by simp only [maxLen]; omega) (by omega) fun p3 c3 g3 hs3 => ⟨_, _, _, rfl, ?_⟩
  rw [set_end, Nat.zero_add, List.nil_append] at hs3
  rw [Nat.zero_add]
  refine ref1_Words_C fun g4 f4 => ?_
  have hwd := wds_bd c
  obtain ⟨n, hn⟩ : ∃ n : Nat, wds c = n := ⟨(wds c).toNat, by omega⟩
  rw [hn] at hK ⊢
  rw [Int.toNat_natCast] at hK
  refine make_words (by omega) ⟨_, _, _, rfl, ?_⟩
  have f5 : Fr noB g4 (g4.push (.cells (madeCells (Value.int .i64 0).cells (n * 1)) 2)) := Fr.push _ _
  have b5 := Blk.newA g4 2 (madeCells (Value.int .i64 0).cells (n * 1))
  rw [made_words] at b5
  generalize g4.push (.cells (madeCells (Value.int .i64 0).cells (n * 1)) 2) = g5 at *
  have hs5 := (hs3.fr f4).blkNew f5 b5
  generalize g4.size = w0 at *
  refine nW fun g6 f6 s6 b6 => ?_
  have hs6 := hs5.fr f6
  rw [List.append_assoc] at hs6
  have src6 : Src g6 3 (some ⟨g5.size, 0, none⟩) 1 1 (thC [(w0, ⟨x, List.replicate n 0, false⟩)]) := ⟨rfl, .inr ⟨_, rfl, fun j u hu => by
    rw [add_mk, b6.cell, Nat.zero_add]
    simpa [thC] using hu⟩⟩
  have e6 : ∀ {A B : Asrt}, ((Δ ++ rfParts R t) ++ ([A] ++ [B]))[(Δ ++ rfParts R t).length + 0]? = some A := at_end
  refine rowApp_of ty_things in_thing rfl (by decide) hs6 e6 src6 thC_one (by simp only [maxLen]; omega) (by omega) fun p7 c7 g7 hs7 => ⟨_, _, _, rfl, ?_⟩
  rw [set_end] at hs7
  have o7 := rf_facts hi0 hs7.left
  have tk : (t.1.take k).length = k := by rw [List.length_take]; omega
  refine nL o7.own rfl (slcDrop_of o7.things (k := k) (by omega) fun p8 hsrc8 => ?_)
  rw [thC_drop] at hsrc8
  have e7 : ∀ {A B : Asrt}, ((Δ ++ rfParts R t) ++ [A, B])[(Δ ++ rfParts R t).length + 0]? = some A := at_end
  refine rowApp_of ty_things in_thing rfl (by decide) hs7 e7 hsrc8 thC_one (by simp only [maxLen]; omega) (by omega) fun p9 c9 g9 hs9 => ⟨_, _, _, rfl, ?_⟩
  rw [set_end] at hs9
  have o9 := rf_facts hi0 hs9.left
  refine nSt o9.own (by simp [rfV]) fun g10 f10 b10 => hK g10 ?_
  -- the parts, put together
  have hs10 := hs9.blkSet (i := i) (at_app (at_app hi0)) f10 b10
  rw [set_app (at_app hi0), set_app hi0] at hs10
  have hi1 : (Δ.set i (blkA X 160 ((rfV R t).set (0 + 1) (.slice p9 (k + 1 + (t.1.length - k)) c9))))[i]? = some (blkA X 160 ((rfV R t).set (0 + 1) (.slice p9 (k + 1 + (t.1.length - k)) c9))) := at_set hi0
  have eΓ : Γ.set i (rfA X (R.ins k ⟨x, List.replicate n 0, false⟩)) = (Δ.set i (blkA X 160 ((rfV R t).set (0 + 1) (.slice p9 (k + 1 + (t.1.length - k)) c9)))).set i (rfA X (R.ins k ⟨x, List.replicate n 0, false⟩)) := by
    rw [← hΔ, List.set_set, List.set_set]
  generalize hΔ1 : Δ.set i (blkA X 160 ((rfV R t).set (0 + 1) (.slice p9 (k + 1 + (t.1.length - k)) c9))) = Δ1 at *
  have hs11 : Sat g10 ((Δ1 ++ (rfParts R t ++ [rowA 172 3 p9 (k + 1 + (t.1.length - k)) c9 (thC (t.1.take k) ++ thC [(w0, ⟨x, List.replicate n 0, false⟩)] ++ thC (t.1.drop k))])) ++ [blkA w0 2 ((List.replicate n (0 : Int)).map (Value.int .i64 ·))]) := by
    simpa using hs10
  have hs12 := wsA_add hs11 (i := Δ1.length + 2) (ys := thW (t.1.take k ++ (w0, ⟨x, List.replicate n 0, false⟩) :: t.1.drop k)) at_end (by
    unfold thW
    rw [List.map_append, List.map_cons]
    refine (List.perm_middle).trans ?_
    rw [← List.map_append, List.take_append_drop])
  rw [set_end] at hs12
  have hs13 := hs12.pick (Δ' := rfParts (R.ins k ⟨x, List.replicate n 0, false⟩) (t.1.take k ++ (w0, ⟨x, List.replicate n 0, false⟩) :: t.1.drop k, t.2.1, t.2.2.1, p9, c9)) [0, 3, 2] (by decide) (by
    have el : (t.1.take k ++ (w0, (⟨x, List.replicate n 0, false⟩ : Thg)) :: t.1.drop k).length = k + 1 + (t.1.length - k) := by simp [tk]; omega
    have ec : thC (t.1.take k ++ (w0, (⟨x, List.replicate n 0, false⟩ : Thg)) :: t.1.drop k) = thC (t.1.take k) ++ thC [(w0, ⟨x, List.replicate n 0, false⟩)] ++ thC (t.1.drop k) := by
      rw [thC_append, List.append_assoc]; rfl
    simp only [rfParts, el, ec]
    rfl)
  rw [eΓ]
  refine rfA_close ?_ ?_ hi1 hs13
  · simp only [Rf.ins, ht, List.map_append, List.map_take, List.map_cons, List.map_drop]
  · have el : (t.1.take k ++ (w0, (⟨x, List.replicate n 0, false⟩ : Thg)) :: t.1.drop k).length = k + 1 + (t.1.length - k) := by simp [tk]; omega
    simp only [rfV, el]
    rfl

end
end Go.Proofs.YtkfdbgpegekcfaaGreatDoorP

namespace Go.Proofs.YtkfdbgpegekcfaaGreatDoorP
open Go Go.GL Go.GLM Go.Proofs Go.Maps
attribute [local irreducible] rawV rawN rawU Tryz.prog

section
variable {h : H} {Γ : List Asrt} {i X : Nat} {R : Rf}

theorem set_same (hi : Γ[i]? = some (rfA X R)) {h' : H} (hs : Sat h' Γ) : Sat h' (Γ.set i (rfA X R)) := by rw [set_id hi]; exact hs

theorem ref4_Take_C (hs : Sat h Γ) (hi : Γ[i]? = some (rfA X R)) (hlen : R.l.length ≤ 1000000) {s : Int} {c : Int} (h0 : 0 ≤ s) (hc : R.cl[s.toNat]? = some c) {K : Int → H → Prop}
    (hno : (∀ p, 0 ≤ p → p < plc c → R.has (adr s p c) = true) → ∀ h', Sat h' Γ → K 0 h')
    (hyes : ∀ p (k : Nat), 0 ≤ p → p < plc c → R.has (adr s p c) = false → (∀ q, 0 ≤ q → q < p → R.has (adr s q c) = true) → k ≤ R.l.length → (∀ j : Nat, j < k → ∀ y, R.l[j]? = some y → y.at_ < adr s p c) → (∀ y, R.l[k]? = some y → adr s p c ≤ y.at_) →
      ∀ h', Sat h' (Γ.set i (rfA X (R.ins k ⟨adr s p c, List.replicate (wds c).toNat 0, false⟩))) → K (adr s p c) h') :
    gantlineref4_Arena_Take.C (some ⟨X, 0, none⟩) s h K := by
  refine gantlineref4_Arena_Take.of ?_
  unfold gantlineref4_Arena_Take.S joinP
  obtain ⟨t0, ht0, o0⟩ := rfA_at hs hi
  have hcl := (List.getElem?_eq_some_iff.1 hc).1
  refine nL o0.own rfl ?_
  have hidx : ∀ {K : Addr → Prop}, (∀ a, cell h a = some (.int .i64 c) → K a) → idx t0.2.1 R.cl.length s 1 K := fun {K} hK => by
    have ho := o0.cls
    rcases ho.2 with ⟨_, _, h2⟩ | ⟨g, o, cur, he, _⟩
    · omega
    · rw [he] at ho ⊢
      refine idx_of h0 (by omega) (hK _ ?_)
      rw [Nat.mul_one, ho.cell (by omega), List.getElem?_map, hc]
      rfl
  refine hidx fun a ha => ldI_of ha ?_
  have hplc := plc_bd c
  refine loop_of (fun t h' => 0 ≤ t.1 ∧ t.1 ≤ plc c ∧ Sat h' Γ ∧ ∀ q, 0 ≤ q → q < t.1 → R.has (adr s q c) = true) (fun t _ => (plc c - t.1).toNat) ⟨by simp, by simp; omega, hs, fun q h1 h2 => by simp at h2; omega⟩ ?_
  rintro ⟨p, _⟩ g ⟨hp0, hp1, hs1, hall⟩
  simp only at hp0 hp1 hs1 hall ⊢
  refine ref1_Places_C fun g1 f1 => split_of (fun h1 => ?_) fun h1 => ?_
  · simp at h1
    refine ref1_Addr_C fun g2 f2 => ?_
    have hs2 := (hs1.fr f1).fr f2
    refine ref4_Find_C hs2 hi hlen (split_of (fun h2 => ?_) fun h2 => ?_)
    · have h2' : R.has (adr s p c) = false := Rf.find_neg.1 (by simpa using h2)
      refine loop_of (fun t h' => 0 ≤ t.1 ∧ t.1 ≤ R.l.length ∧ h' = g2 ∧ ∀ j : Nat, (j : Int) < t.1 → ∀ y, R.l[j]? = some y → y.at_ < adr s p c) (fun t _ => (R.l.length - t.1).toNat) ⟨by simp, by simp, rfl, fun j hj => by simp at hj; omega⟩ ?_
      rintro ⟨k, _⟩ g3 ⟨hk0, hk1, rfl, hlt⟩
      simp only at hk0 hk1 hlt ⊢
      obtain ⟨k, rfl⟩ : ∃ n : Nat, k = n := ⟨k.toNat, by omega⟩
      obtain ⟨t, ht, ho⟩ := rfA_at hs2 hi
      have hl : R.l.length = t.1.length := by rw [ht, List.length_map]
      refine nL ho.own rfl (split_of (fun h3 => ?_) fun h3 => ?_)
      · simp at h3
        have hkt : k < t.1.length := by omega
        have hy : R.l[k]? = some t.1[k].2 := by rw [ht, List.getElem?_map]; simp [hkt]
        refine nL ho.own rfl (thing_idx ho.things hk0 (s := t.1[k]) (by simp [hkt]) fun g o c1 c2 c3 => ?_)
        simp only [add_mk, Nat.add_zero]
        refine ldI_of c1 (split_of (fun h4 => ?_) fun h4 => ?_)
        · simp at h4
          rw [wrap64_id (by omega) (by omega)]
          refine ⟨⟨by omega, by omega, by first | rfl | trivial, fun j hj y hjy => ?_⟩, by omega⟩
          by_cases e : j = k
          · subst e
            rw [hy] at hjy
            cases hjy
            exact h4
          · exact hlt j (by omega) y hjy
        · simp at h4
          exact take_tail hs2 hi hlen (by omega) (hyes p k hp0 h1 h2' hall (by omega) (fun j hj => hlt j (by omega)) fun y hky => by rw [hy] at hky; cases hky; exact h4)
      · simp at h3
        exact take_tail hs2 hi hlen (by omega) (hyes p k hp0 h1 h2' hall (by omega) (fun j hj => hlt j (by omega)) fun y hky => by
          have := (List.getElem?_eq_some_iff.1 hky).1
          omega)
    · have h2' : R.has (adr s p c) = true := by
        cases hh : R.has (adr s p c)
        · have := Rf.find_neg.2 hh
          simp at h2; omega
        · rfl
      rw [wrap64_id (by omega) (by omega)]
      refine ⟨⟨by omega, by omega, hs2, fun q hq0 hq => ?_⟩, by omega⟩
      by_cases e : q = p
      · subst e; exact h2'
      · exact hall q hq0 (by omega)
  · simp at h1
    exact hno (fun q hq0 hq => hall q hq0 (by omega)) g1 (hs1.fr f1)

end
end Go.Proofs.YtkfdbgpegekcfaaGreatDoorP

namespace Go.Proofs.YtkfdbgpegekcfaaGreatDoorP
open Go Go.GL Go.GLM Go.Proofs Go.Maps
attribute [local irreducible] rawV rawN rawU Tryz.prog

def ralV (X S n : Nat) : List Value := [.pointer (some ⟨X, 0, none⟩), .slice (some ⟨S, 0, none⟩) n n]

section
variable {h : H} {Γ : List Asrt} {i iy is X Y S n : Nat} {R : Rf}

theorem ref4_NewAlloc_C (hs : Sat h Γ) (hi : Γ[i]? = some (rfA X R)) (hn : R.cl.length ≤ 1000) {K : Option Addr → H → Prop}
    (hk : ∀ h' Y S, Sat h' (Γ ++ [blkA S 4 (List.replicate R.cl.length (.bool false)), blkA Y 165 (ralV X S R.cl.length)]) → K (some ⟨Y, 0, none⟩) h') : gantlineref4_NewAlloc.C (some ⟨X, 0, none⟩) h K := by
  refine gantlineref4_NewAlloc.of ?_
  unfold gantlineref4_NewAlloc.S
  obtain ⟨t, ht, ho⟩ := rfA_at hs hi
  refine nL ho.own rfl (make_bools rfl (by omega) ⟨_, _, _, rfl, ?_⟩)
  have b1 := Blk.newA h 4 (madeCells (Value.bool false).cells (R.cl.length * 1))
  rw [made_bools] at b1
  have f1 := Fr.push h (.cells (madeCells (Value.bool false).cells (R.cl.length * 1)) 4)
  generalize h.push (.cells (madeCells (Value.bool false).cells (R.cl.length * 1)) 4) = g1 at *
  have hs1 := hs.blkNew f1 b1
  refine nW fun g2 f2 s2 b2 => hk g2 g1.size h.size ?_
  have hs2 := hs1.blkNew f2 b2
  rw [List.append_assoc] at hs2
  exact hs2

theorem ref4_sweep_C {fl : List Bool} (hs : Sat h Γ) (hy : Γ[iy]? = some (blkA Y 165 (ralV X S fl.length))) (hS : Γ[is]? = some (blkA S 4 (fl.map (Value.bool ·)))) {s : Int} (h0 : 0 ≤ s) (hf : fl[s.toNat]? = some false) {K : Bool → H → Prop} (hk : K false h) :
    gantlineref4_Alloc_sweep.C (some ⟨Y, 0, none⟩) s h K := by
  refine gantlineref4_Alloc_sweep.of ?_
  unfold gantlineref4_Alloc_sweep.S
  have hl := (List.getElem?_eq_some_iff.1 hf).1
  refine nL (blkA_at hs hy) rfl (idx_of h0 (by omega) ?_)
  rw [Nat.zero_add, Nat.mul_one]
  exact ldB_of (b := false) (by rw [(blkA_at hs hS).cell, List.getElem?_map, hf]; rfl) (split_true hk)

/-- The arena with a span's class set. -/
def Rf.setCl (R : Rf) (s : Int) (c : Int) : Rf := ⟨R.cl.set s.toNat c, R.l⟩

theorem rf_setCl (hs : Sat h Γ) (hi : Γ[i]? = some (rfA X R)) {s c : Int} (h0 : 0 ≤ s) (h1 : s < R.cl.length) {K : Addr → H → Prop} (hk : ∀ h', Sat h' (Γ.set i (rfA X (R.setCl s c))) → K ⟨X, 0, none⟩ h') :
    nilC (some ⟨X, 0, none⟩) (fun a3 => ldL h (Addr.add a3 0) (fun p4 k5 k6 => idx p4 k5 s 1 (fun a7 => stC h (Addr.add a7 0) (.int .i64 c) (K a3)))) := by
  obtain ⟨t, ht, hs0⟩ := rfA_open hs hi
  have hi0 : (Γ.set i (blkA X 160 (rfV R t)))[i]? = some (blkA X 160 (rfV R t)) := at_set hi
  have eΓ : Γ.set i (rfA X (R.setCl s c)) = (Γ.set i (blkA X 160 (rfV R t))).set i (rfA X (R.setCl s c)) := by rw [List.set_set]
  rw [eΓ] at hk
  generalize Γ.set i (blkA X 160 (rfV R t)) = Δ at *
  have ho := rf_facts hi0 hs0
  have ec : (Δ ++ rfParts R t)[Δ.length + 0]? = some (rowA 3 1 t.2.1 R.cl.length t.2.2.1 (R.cl.map (Value.int .i64 ·))) := at_end
  refine nL ho.own rfl (rowA_store hs0 ec h0 h1 fun h' hs1 => hk h' ?_)
  rw [set_end] at hs1
  have el : (R.setCl s c).cl.length = R.cl.length := by simp [Rf.setCl]
  refine rfA_close (t := t) ht ?_ hi0 (R := R.setCl s c) ?_
  · simp only [rfV, el]
  · have : rfParts (R.setCl s c) t = (rfParts R t).set 0 (rowA 3 1 t.2.1 R.cl.length t.2.2.1 ((R.cl.map (Value.int .i64 ·)).set s.toNat (.int .i64 c))) := by
      simp only [rfParts, el, Rf.setCl, List.map_set, List.length_set]
      rfl
    rw [this]
    exact hs1

theorem replicate_map (n : Nat) : (List.replicate n false).map (Value.bool ·) = List.replicate n (.bool false) := by simp

theorem ref4_give_C (hs : Sat h Γ) (hi : Γ[i]? = some (rfA X R)) (hy : Γ[iy]? = some (blkA Y 165 (ralV X S n))) (hS : Γ[is]? = some (blkA S 4 (List.replicate n (.bool false)))) (hne : i ≠ iy ∧ i ≠ is ∧ iy ≠ is) (hn : n = R.cl.length) (hlen : R.l.length ≤ 1000000)
    {s c : Int} (h0 : 1 ≤ s) (h1 : s < n) (hc : 0 ≤ c ∧ c ≤ 5) {K : Int → H → Prop}
    (hno : (∀ p, 0 ≤ p → p < plc c → R.has (adr s p c) = true) → ∀ h', Sat h' (Γ.set i (rfA X (R.setCl s c))) → K 0 h')
    (hyes : ∀ p (k : Nat), 0 ≤ p → p < plc c → R.has (adr s p c) = false → (∀ q, 0 ≤ q → q < p → R.has (adr s q c) = true) → k ≤ R.l.length → (∀ j : Nat, j < k → ∀ y, R.l[j]? = some y → y.at_ < adr s p c) → (∀ y, R.l[k]? = some y → adr s p c ≤ y.at_) →
      ∀ h', Sat h' (Γ.set i (rfA X ((R.setCl s c).ins k ⟨adr s p c, List.replicate (wds c).toNat 0, false⟩))) → K (adr s p c) h') :
    gantlineref4_Alloc_give.C (some ⟨Y, 0, none⟩) s c h K := by
  refine gantlineref4_Alloc_give.of ?_
  unfold gantlineref4_Alloc_give.S
  refine nP (blkA_at hs hy) rfl (rf_setCl hs hi (by omega) (by omega) fun g1 hs1 => ?_)
  have hy1 : (Γ.set i (rfA X (R.setCl s c)))[iy]? = some (blkA Y 165 (ralV X S n)) := at_ne hy hne.1
  have hS1 : (Γ.set i (rfA X (R.setCl s c)))[is]? = some (blkA S 4 (List.replicate n (.bool false))) := at_ne hS hne.2.1
  refine nL (blkA_at hs1 hy1) rfl (idx_of (by omega) h1 ?_)
  simp only [add_mk, Nat.zero_add, Nat.add_zero, Nat.mul_one]
  have bS := blkA_at hs1 hS1
  refine stC_of bS (by rw [List.length_replicate]; omega) ?_
  have b2 := bS.set s.toNat (.bool false)
  rw [replicate_set] at b2
  have hs2 := hs1.blkSet hS1 (Fr.set g1 ⟨S, s.toNat, none⟩ (.bool false)) b2
  rw [set_id hS1] at hs2
  generalize setC g1 ⟨S, s.toNat, none⟩ (.bool false) = g2 at *
  refine nP (blkA_at hs2 hy1) rfl ?_
  have hcl : (R.setCl s c).cl[s.toNat]? = some c := by
    simp only [Rf.setCl]
    rw [List.getElem?_set_self (by omega)]
  refine ref4_Take_C hs2 (at_set hi) hlen (by omega) hcl (fun h2 h' hs3 => hno h2 h' hs3) fun p k q0 q1 q2 q3 q4 q5 q6 h' hs3 => hyes p k q0 q1 q2 q3 q4 q5 q6 h' ?_
  rw [List.set_set] at hs3
  exact hs3

end
end Go.Proofs.YtkfdbgpegekcfaaGreatDoorP

namespace Go.Proofs.YtkfdbgpegekcfaaGreatDoorP
open Go Go.GL Go.GLM Go.Proofs Go.Maps
attribute [local irreducible] rawV rawN rawU Tryz.prog

section
variable {h : H} {Γ : List Asrt} {i iy is X Y S n : Nat} {R : Rf}

/-- A span of the class with a place that is free. -/
def Rf.roomy (R : Rf) (c s : Int) : Prop := R.cl[s.toNat]? = some c ∧ ∃ p, 0 ≤ p ∧ p < plc c ∧ R.has (adr s p c) = false

theorem rf_cls (hs : Sat h Γ) (hi : Γ[i]? = some (rfA X R)) {s c : Int} (h0 : 0 ≤ s) (hc : R.cl[s.toNat]? = some c) {t : RfT} (ho : RfO h X R t) {K : Addr → Prop} (hK : ∀ a, cell h a = some (.int .i64 c) → K a) : idx t.2.1 R.cl.length s 1 K := by
  have hcl := (List.getElem?_eq_some_iff.1 hc).1
  have ho := ho.cls
  rcases ho.2 with ⟨_, _, h2⟩ | ⟨g, o, cur, he, _⟩
  · omega
  · rw [he] at ho ⊢
    refine idx_of h0 (by omega) (hK _ ?_)
    rw [Nat.mul_one, ho.cell (by omega), List.getElem?_map, hc]
    rfl

theorem adr_ne {s p c : Int} (h1 : 1 ≤ s) (h2 : s < 512) (h3 : 0 ≤ p) (h4 : p < plc c) : adr s p c ≠ 0 := by
  have := mul_bd h3 h4
  unfold adr
  rw [if_neg (by omega)]
  omega

theorem ref4_AllocTake_C (hs : Sat h Γ) (hi : Γ[i]? = some (rfA X R)) (hy : Γ[iy]? = some (blkA Y 165 (ralV X S n))) (hS : Γ[is]? = some (blkA S 4 (List.replicate n (.bool false)))) (hne : i ≠ iy ∧ i ≠ is ∧ iy ≠ is) (hn : n = R.cl.length) (hn5 : n ≤ 512)
    (hlen : R.l.length ≤ 1000000) {w : Int} (hw : 0 ≤ cls w) {K : Int → H → Prop}
    (hold : ∀ (s p : Int) (k : Nat), 1 ≤ s → s < n → R.cl[s.toNat]? = some (cls w) → (∀ j : Int, 1 ≤ j → j < s → ¬ R.roomy (cls w) j) → 0 ≤ p → p < plc (cls w) → R.has (adr s p (cls w)) = false → (∀ q, 0 ≤ q → q < p → R.has (adr s q (cls w)) = true) →
      k ≤ R.l.length → (∀ j : Nat, j < k → ∀ y, R.l[j]? = some y → y.at_ < adr s p (cls w)) → (∀ y, R.l[k]? = some y → adr s p (cls w) ≤ y.at_) →
      ∀ h', Sat h' (Γ.set i (rfA X (R.ins k ⟨adr s p (cls w), List.replicate (wds (cls w)).toNat 0, false⟩))) → K (adr s p (cls w)) h')
    (hnew : ∀ (s : Int) (d : Int), 1 ≤ s → s < n → (∀ j : Int, 1 ≤ j → j < n → ¬ R.roomy (cls w) j) → R.cl[s.toNat]? = some d → d < 0 → (∀ j : Int, 1 ≤ j → j < s → ∀ d, R.cl[j.toNat]? = some d → 0 ≤ d) →
      ∀ h', Sat h' Γ → gantlineref4_Alloc_give.C (some ⟨Y, 0, none⟩) s (cls w) h' K)
    (hfull : (∀ j : Int, 1 ≤ j → j < n → ¬ R.roomy (cls w) j) → (∀ j : Int, 1 ≤ j → j < n → ∀ d, R.cl[j.toNat]? = some d → 0 ≤ d) → ∀ h', Sat h' Γ → K 0 h') :
    gantlineref4_Alloc_Take.C (some ⟨Y, 0, none⟩) w h K := by
  refine gantlineref4_Alloc_Take.of ?_
  unfold gantlineref4_Alloc_Take.S joinP
  have hfl : ∀ s : Int, 0 ≤ s → s < n → (List.replicate n false)[s.toNat]? = some false := fun s h0 h1 => by rw [List.getElem?_replicate, if_pos (by omega)]
  have hy' : Γ[iy]? = some (blkA Y 165 (ralV X S (List.replicate n false).length)) := by rw [List.length_replicate]; exact hy
  have hS' : Γ[is]? = some (blkA S 4 ((List.replicate n false).map (Value.bool ·))) := by rw [replicate_map]; exact hS
  refine ref1_Class_C fun g0 f0 => ?_
  refine loop_of (fun t h' => 1 ≤ t.1 ∧ (t.1 ≤ n ∨ n = 0) ∧ Sat h' Γ ∧ ∀ j, 1 ≤ j → j < t.1 → ¬ R.roomy (cls w) j) (fun t _ => (n - t.1).toNat) ⟨by simp, by simp; omega, hs.fr f0, fun j h1 h2 => by simp at h2; omega⟩ ?_
  rintro ⟨s, _⟩ g1 ⟨h1, hsn, hs1, hall⟩
  simp only at h1 hsn hs1 hall ⊢
  obtain ⟨t, ht, ho⟩ := rfA_at hs1 hi
  refine nP (blkA_at hs1 hy) rfl (nL ho.own rfl (split_of (fun h2 => ?_) fun h2 => ?_))
  · simp at h2
    have hlt : s.toNat < R.cl.length := by omega
    obtain ⟨d, hd⟩ : ∃ d, R.cl[s.toNat]? = some d := ⟨R.cl[s.toNat], by simp [hlt]⟩
    have next : ¬ R.roomy (cls w) s → ∀ j, 1 ≤ j → j < s + 1 → ¬ R.roomy (cls w) j := fun hr j hj1 hj2 => by
      by_cases e : j = s
      · subst e; exact hr
      · exact hall j hj1 (by omega)
    rw [wrap64_id (by omega) (by omega)]
    refine nP (blkA_at hs1 hy) rfl (nL ho.own rfl (rf_cls hs1 hi (by omega) hd ho fun a ha => ldI_of ha (split_of (fun h3 => ?_) fun h3 => ?_)))
    · have h3' : d ≠ cls w := by simpa using h3
      exact ⟨⟨by omega, by omega, hs1, next fun hr => by have := hr.1; rw [hd] at this; cases this; exact h3' rfl⟩, by omega⟩
    · have h3' : d = cls w := by simpa using h3
      subst h3'
      refine ref4_sweep_C hs1 hy' hS' (by omega) (hfl s (by omega) (by omega)) (nP (blkA_at hs1 hy) rfl (nL ho.own rfl (rf_cls hs1 hi (by omega) hd ho fun a ha => ldI_of ha (split_pos (by simp) (nP (blkA_at hs1 hy) rfl ?_)))))
      refine ref4_Take_C hs1 hi hlen (by omega) hd (fun h4 g2 hs2 => ?_) fun p k q0 q1 q2 q3 q4 q5 q6 g2 hs2 => ?_
      · refine split_neg (by decide) ⟨⟨by omega, by omega, hs2, next fun hr => ?_⟩, by omega⟩
        obtain ⟨_, p, p0, p1, p2⟩ := hr
        rw [h4 p p0 p1] at p2
        cases p2
      · exact split_pos (by simpa using adr_ne h1 (by omega) q0 q1) (hold s p k h1 (by omega) hd hall q0 q1 q2 q3 q4 q5 q6 g2 hs2)
  · simp at h2
    have hall : ∀ j : Int, 1 ≤ j → j < n → ¬ R.roomy (cls w) j := fun j hj1 hj2 => hall j hj1 (by omega)
    refine loop_of (fun t h' => 1 ≤ t.1 ∧ (t.1 ≤ n ∨ n = 0) ∧ h' = g1 ∧ ∀ j : Int, 1 ≤ j → j < t.1 → ∀ d, R.cl[j.toNat]? = some d → 0 ≤ d) (fun t _ => (n - t.1).toNat) ⟨by simp, by simp; omega, rfl, fun j h1 h2 => by simp at h2; omega⟩ ?_
    rintro ⟨s, _⟩ g2 ⟨h1, hsn, rfl, hno⟩
    simp only at h1 hsn hno ⊢
    refine nP (blkA_at hs1 hy) rfl (nL ho.own rfl (split_of (fun h3 => ?_) fun h3 => ?_))
    · simp at h3
      have hlt : s.toNat < R.cl.length := by omega
      obtain ⟨d, hd⟩ : ∃ d, R.cl[s.toNat]? = some d := ⟨R.cl[s.toNat], by simp [hlt]⟩
      rw [wrap64_id (by omega) (by omega)]
      refine nP (blkA_at hs1 hy) rfl (nL ho.own rfl (rf_cls hs1 hi (by omega) hd ho fun a ha => ldI_of ha (split_of (fun h4 => ?_) fun h4 => ?_)))
      · exact hnew s d h1 (by omega) hall hd (by simpa using h4) hno g2 hs1
      · refine ⟨⟨by omega, by omega, by first | rfl | trivial, fun j hj1 hj2 d' hd' => ?_⟩, by omega⟩
        by_cases e : j = s
        · subst e
          rw [hd] at hd'
          cases hd'
          simpa using h4
        · exact hno j hj1 (by omega) d' hd'
    · simp at h3
      refine loop_of (fun t h' => 1 ≤ t.1 ∧ (t.1 ≤ n ∨ n = 0) ∧ h' = g2) (fun t _ => (n - t.1).toNat) ⟨by simp, by simp; omega, rfl⟩ ?_
      rintro ⟨j, _⟩ g3 ⟨hj1, hjn, rfl⟩
      simp only at hj1 hjn ⊢
      refine nP (blkA_at hs1 hy) rfl (nL ho.own rfl (split_of (fun h4 => ?_) fun h4 => ?_))
      · simp at h4
        rw [wrap64_id (by omega) (by omega)]
        exact ref4_sweep_C hs1 hy' hS' (by omega) (hfl j (by omega) (by omega)) (split_false ⟨⟨by omega, by omega, by first | rfl | trivial⟩, by omega⟩)
      · exact hfull hall (fun j hj1 hj2 => hno j hj1 (by omega)) g3 hs1

end
end Go.Proofs.YtkfdbgpegekcfaaGreatDoorP

namespace Go.Proofs.YtkfdbgpegekcfaaGreatDoorP
open Go Go.GL Go.GLM Go.Proofs Go.Maps
attribute [local irreducible] rawV rawN rawU Tryz.prog

theorem ty_rshapes : Tryz.prog.underlying 74 = some (.slice 88) := by kernel_rfl
theorem in_rshape : (Tryz.prog.info? 88).map (fun i => (i.zero, i.size, i.bytes)) = some (some (.agg #[.int .i64 0, .int .i64 0, .int .u64 0]), 3, 24) := by kernel_rfl

theorem shC_one {l : List Shp} : ∀ u ∈ shC l, u.oneCell' = true := by
  induction l with
  | nil => intro u hu; simp [shC] at hu
  | cons s l ih =>
    intro u hu
    simp only [shC, List.mem_cons] at hu
    rcases hu with rfl | rfl | rfl | hu
    · rfl
    · rfl
    · rfl
    · exact ih u hu

/-- An element of a row of shapes. -/
theorem shp_idx {h : H} {e : TypeId} {p : Option Addr} {n c : Nat} {xs : List Shp} (ho : OwnO h 0 e 3 p n c (shC xs)) {j : Int} (h0 : 0 ≤ j) {s : Shp} (hj : xs[j.toNat]? = some s) {K : Addr → Prop}
    (hk : ∀ g o, cell h ⟨g, o, none⟩ = some (.int .i64 s.1) → cell h ⟨g, o + 1, none⟩ = some (.int .i64 s.2.1) → cell h ⟨g, o + 2, none⟩ = some (.int .u64 (s.2.2 : Int)) → K ⟨g, o, none⟩) : idx p n j 3 K := by
  have hlt := (List.getElem?_eq_some_iff.1 hj).1
  have hl := ho.1
  rw [shC_len] at hl
  obtain ⟨e1, e2, e3⟩ := shC_get hj
  rcases ho.2 with ⟨_, _, h2⟩ | ⟨g, o, cur, rfl, _⟩
  · omega
  · refine idx_of h0 (by omega) (hk _ _ ?_ ?_ ?_)
    · rw [ho.cell (by omega)]; exact e1
    · rw [Nat.add_assoc, ho.cell (by omega)]; exact e2
    · rw [Nat.add_assoc, ho.cell (by omega)]; exact e3

section
variable {h : H} {Γ : List Asrt} {i j MK : Nat} {ts : List Shp}

/-- The reference's marker: its block's cells. -/
def rmV (v : Value) (p : Option Addr) (n c : Nat) (g : Value) : List Value := [v, .slice p n c, g]

theorem ref4_Number_C {v gv : Value} {p : Option Addr} {c : Nat} (hs : Sat h Γ) (hi : Γ[i]? = some (blkA MK 76 (rmV v p ts.length c gv))) (hj : Γ[j]? = some (rowA 88 3 p ts.length c (shC ts))) (hne : i ≠ j) (hlen : ts.length ≤ 100000) {s : Shp} {K : Int → H → Prop}
    (hold : ∀ k : Nat, ts[k]? = some s → ∀ h', Sat h' Γ → K k h')
    (hnew : s ∉ ts → ∀ h' p' c', Sat h' ((Γ.set j (rowA 88 3 p' (ts.length + 1) c' (shC (ts ++ [s])))).set i (blkA MK 76 (rmV v p' (ts.length + 1) c' gv))) → K (ts.length : Nat) h') :
    gantlineref4_Marker_Number.C (some ⟨MK, 0, none⟩) s.1 s.2.1 (s.2.2 : Int) h K := by
  refine gantlineref4_Marker_Number.of ?_
  unfold gantlineref4_Marker_Number.S
  refine nW fun g1 f1 s1 b1 => ?_
  have hs1 := hs.fr f1
  have bM := blkA_at hs1 hi
  have hr := rowA_at hs1 hj
  refine loop_of (fun t h' => 0 ≤ t.1 ∧ t.1 ≤ ts.length ∧ h' = g1 ∧ ∀ k : Nat, (k : Int) < t.1 → ts[k]? ≠ some s) (fun t _ => (ts.length - t.1).toNat) ⟨by simp, by simp, rfl, fun k hk => by simp at hk; omega⟩ ?_
  rintro ⟨k, _⟩ g2 ⟨h0, h1, rfl, hall⟩
  simp only at h0 h1 hall ⊢
  refine nL bM rfl (split_of (fun h2 => ?_) fun h2 => ?_)
  · simp at h2
    have hlt : k.toNat < ts.length := by omega
    refine nL bM rfl (shp_idx hr h0 (s := ts[k.toNat]) (by simp [hlt]) fun g o c1 c2 c3 => ?_)
    simp only [add_mk, Nat.add_zero]
    refine ldI_of c1 (ldI_of c2 (ldI_of c3 (ldI_of (n := s.1) (by rw [b1.cell]; rfl) (ldI_of (n := s.2.1) (by rw [b1.cell]; rfl) (ldI_of (n := (s.2.2 : Int)) (by rw [b1.cell]; rfl) (split_of (fun h3 => ?_) fun h3 => ?_))))))
    · have e : ts[k.toNat] = s := by
        simp only [Bool.and_eq_true, beq_iff_eq] at h3
        obtain ⟨e1, e2, e3⟩ := h3
        refine Prod.ext e1 (Prod.ext e2 (by omega))
      have := hold k.toNat (by simp [hlt, e]) g2 hs1
      rwa [show ((k.toNat : Nat) : Int) = k from by omega] at this
    · rw [wrap64_id (by omega) (by omega)]
      refine ⟨⟨by omega, by omega, by first | rfl | trivial, fun j hj => ?_⟩, by omega⟩
      by_cases e : j = k.toNat
      · subst e
        intro he
        have he := (List.getElem?_eq_some_iff.1 he).2
        rw [he] at h3
        simp at h3
      · exact hall j (by omega)
  · simp at h2
    have hns : s ∉ ts := fun hm => by
      obtain ⟨k', hk'⟩ := List.getElem?_of_mem hm
      have := (List.getElem?_eq_some_iff.1 hk').1
      exact hall k' (by omega) hk'
    refine nL bM rfl (ldI_of (n := s.1) (by rw [add_mk, b1.cell]; rfl) (ldI_of (n := s.2.1) (by rw [add_mk, b1.cell]; rfl) (ldI_of (n := (s.2.2 : Int)) (by rw [add_mk, b1.cell]; rfl) (nW fun g3 f3 s3 b3 => ?_))))
    have hs3 := hs1.fr f3
    refine need_of (lL (f3.blk bM (fun h => h)) rfl rfl) ?_
    have src3 : Src g3 3 (some ⟨g2.size, 0, none⟩) 1 1 (shC [s]) := ⟨rfl, .inr ⟨_, rfl, fun j u hu => by
      rw [add_mk, b3.cell, Nat.zero_add]
      simpa [shC] using hu⟩⟩
    refine rowApp_of ty_rshapes in_rshape rfl (by decide) hs3 hj src3 shC_one (by simp only [maxLen]; omega) (by omega) fun p4 c4 g4 hs4 => ⟨_, _, _, rfl, ?_⟩
    rw [← shC_append] at hs4
    have hi4 := at_ne (B := rowA 88 3 p4 (ts.length + 1) c4 (shC (ts ++ [s]))) hi hne.symm
    refine nSt (blkA_at hs4 hi4) (by simp [rmV]) fun g5 f5 b5 => nL b5 rfl ?_
    have hs5 := hs4.blkSet hi4 f5 b5
    rw [wrap64_id (by omega) (by omega), show (((ts.length + 1 : Nat) : Int) - 1) = ((ts.length : Nat) : Int) from by omega]
    exact hnew hns g5 p4 c4 hs5

theorem mark_New_S {A T : Nat} (hs : Sat h Γ) {K : Option Addr → H → Prop}
    (hk : ∀ h' M Q, Sat h' (Γ ++ [quA Q [], blkA M 99 [.pointer (some ⟨A, 0, none⟩), .pointer (some ⟨T, 0, none⟩), .pointer (some ⟨Q, 0, none⟩)]]) → K (some ⟨M, 0, none⟩) h') : mark_New.C (some ⟨A, 0, none⟩) (some ⟨T, 0, none⟩) h K := by
  refine mark_New.of ?_
  unfold mark_New.S
  refine grey_New.of ?_
  unfold grey_New.S
  refine nW fun g1 f1 s1 b1 => nW fun g2 f2 s2 b2 => hk g2 g1.size h.size ?_
  have hs1 : Sat g1 (Γ ++ [quA h.size []]) := hs.new f1 (d := (· = h.size)) ⟨none, 0, b1, OwnO.nil _ _ _ _, (fun b (hb : blkOf none b) => by obtain ⟨a, ha, _⟩ := hb; cases ha), fun b => ⟨fun h => .inl h, fun h => by
    rcases h with h | ⟨a, ha, _⟩
    · exact h
    · cases ha⟩⟩ fun b hb => by omega
  have hs2 := hs1.blkNew f2 b2
  rw [List.append_assoc] at hs2
  exact hs2

end
end Go.Proofs.YtkfdbgpegekcfaaGreatDoorP

/-
  From the contracts to the rows (RW): calls, the table, the arguments as they lie.
-/
import Derived.Test.YtkfdbgpegekcfaaGreatDoorXf
import Derived.Test.YtkfdbgpegekcfaaGreatDoorRows
import Derived.ProofKit
import Derived.LaidMore
import Derived.OpenShut
import Derived.Stop.Joined

namespace Go.GL
theorem calls_of_callK {P : Program} {f : FuncId} {args : List Value} {t : TypeId} {s : Sh} {w : World} {K : CurL (shKs s.2) (H → Prop)} (hc : ∀ (args : Array Value) (w : World), (callFunc f args).run P w = .ok (.enter f args) w)
    (h : callK P f args t s w.heap K) : Calls P f ⟨args⟩ w fun e w' => ∃ v, e = .returned v ∧ Same w w' ∧ apartK P t (resK s K) v w'.heap := by
  have h1 := h w rfl
  rw [hc] at h1
  exact h1.2 w rfl

theorem bool_of_apart {P : Program} {t : TypeId} {v : Value} {h : H} {K : Bool → H → Prop} (hs : shT P t = some (false, [(false, [.b])])) (hk : apartK P t (resK (false, [(false, [.b])]) K) v h) : ∃ b, v = .bool b ∧ K b h := by
  unfold apartK exT at hk
  rw [hs] at hk
  obtain ⟨b, rfl, hb⟩ := hk
  exact ⟨b, rfl, hb⟩
end Go.GL
namespace Go.Proofs.YtkfdbgpegekcfaaGreatDoorP
open Go Go.GL Go.GLM Go.Proofs

attribute [local irreducible] rawV rawN rawU Tryz.prog callK

theorem sh_bool : shT Tryz.prog 4 = some (false, [(false, [.b])]) := by kernel_rfl

/-- A contract of a law that answers true, as the kit has it. -/
theorem calls_true {f : FuncId} {args : List Value} {w : World} (hc : ∀ (args : Array Value) (w : World), (callFunc f args).run Tryz.prog w = .ok (.enter f args) w)
    (h : callK Tryz.prog f args 4 (false, [(false, [.b])]) w.heap (fun b h' => b = true ∧ Fr noB w.heap h')) : Calls Tryz.prog f ⟨args⟩ w fun e w' => e = .returned (.bool true) ∧ RowKit.Below w.heap.size w w' := by
  refine Calls.mono (calls_of_callK hc h) ?_
  rintro e w' ⟨v, rfl, hs, hk⟩
  obtain ⟨b, rfl, rfl, hf⟩ := bool_of_apart sh_bool hk
  exact ⟨rfl, hs.2.1, hs.1, hs.2.2, hf.1, fun k hk => hf.2 k hk fun h => h⟩

theorem gTab : Tryz.prog.globalNamed "math/bits.deBruijn64tab" = some 0 := by kernel_rfl
theorem tTab : (Tryz.prog.globals[0]?).map (·.type) = some 207 := by kernel_rfl
theorem uTab : Tryz.prog.underlying 207 = some (.array 64 5) := by kernel_rfl
theorem cTab : Tryz.prog.cellsOf 5 = 1 := by kernel_rfl
theorem uU8 : Tryz.prog.underlying 5 = some (.int .u8) := by kernel_rfl

/-- The table lies where it is listed. -/
theorem tab_of_laid {W : World} (h : laidMetH Tryz.prog [("math/bits.deBruijn64tab", Go.Proofs.YtkfdbgpegekcfaaGreatDoor.Rows.laid_math_bits_deBruijn64tab)] W) : Tab W.heap := by
  rw [MakeChecks.laidMetH_plain _ _ _ (by kernel_rfl)] at h
  obtain ⟨ps, ⟨g0, t0, cs0, f0, p0, q0, hg0, ht0, hv0, hd0, _, _⟩, _, _⟩ := h
  obtain rfl := Option.some.inj (gTab.symm.trans hg0)
  obtain rfl := Option.some.inj (tTab.symm.trans ht0)
  obtain ⟨xs, m1, _, hx1, hcl, hn, hel⟩ := DataW.trod_array uTab hd0
  have hx2 : xs.map (·.1) = deB.map (fun n => DataW.lit (Lit.int .u8 (n : Nat))) := by
    simp only [Prod.mk.injEq] at hx1
    have := hx1.1
    exact (DataW.agg.inj this).symm
  have hc64 : cs0.toList.length = 64 := by rw [hcl]; kernel_rfl
  have key : ∀ i v, deB[i]? = some v → W.cell? ⟨0, i, none⟩ = some (.int .u8 (v : Nat)) := by
    intro i v hv
    have hi : i < 64 := (List.getElem?_eq_some_iff.1 hv).1
    have h1 := hel i hi
    rw [cTab, Nat.mul_one] at h1
    have hxi : xs[i]? = some (xs[i]'(by omega)) := by simp
    rw [hxi] at h1
    obtain ⟨n, e1, e2, _⟩ := DataW.trod_int uU8 h1
    have h2 : (xs.map (·.1))[i]? = (deB.map (fun n => DataW.lit (Lit.int .u8 (n : Nat))))[i]? := by rw [hx2]
    rw [List.getElem?_map, List.getElem?_map, hxi, hv, Option.map_some, Option.map_some, e2] at h2
    have hnv : n = (v : Nat) := by
      have := Option.some.inj h2
      simpa using this
    subst hnv
    rw [World.var?_cell hg0 hv0 i]
    have h3 : (cs0.toList.drop i).take 1 = [Value.int .u8 (v : Nat)] := e1
    have h4 : (cs0.toList.drop i)[0]? = some (Value.int .u8 (v : Nat)) := by
      have := congrArg (fun l => l[0]?) h3
      simpa using this
    rw [List.getElem?_drop, Nat.add_zero] at h4
    simpa using h4
  refine ⟨?_, key⟩
  have := key 0 0 rfl
  unfold World.cell? at this
  by_cases h0 : 0 < W.heap.size
  · exact h0
  · rw [Array.getElem?_eq_none (by simpa using h0)] at this
    cases this

section
variable {H' : Type} {enc : TypeId × Value → H'} {w : World} {sp : Nat → Bool} {fuel : Nat}

/-- A slice of numbers, read. -/
theorem rd_ints {t e : TypeId} {held : Bool} {cs : List Value} {x : DataW H' × List MemPlace} (ht : Tryz.prog.underlying t = some (.slice e)) (he : Tryz.prog.underlying e = some (.int .i64)) (hc : Tryz.prog.cellsOf e = 1)
    (h : DataW.trod enc Tryz.prog w 0 sp held fuel t cs = some x) : ∃ (p : Option Addr) (c : Nat) (xs : List Int), cs = [.slice p xs.length c] ∧ Src w.heap 1 p xs.length c (xs.map (Value.int .i64 ·)) ∧ ∀ v ∈ xs, I64 v := by
  rcases ChangeShapes.open_ints ht he hc h with ⟨rfl, _⟩ | ⟨a, len, cap, zs, rfl, _, hl, hm, hz, _, hcell, hwf⟩
  · exact ⟨none, 0, [], rfl, ⟨rfl, .inl ⟨rfl, rfl, rfl⟩⟩, fun v hv => by simp at hv⟩
  · have hlz : len ≤ zs.length := by rw [hz]; split <;> omega
    have hlen : (zs.take len).length = len := by rw [List.length_take]; omega
    refine ⟨some a, cap, zs.take len, by rw [hlen], ⟨by simp, .inr ⟨a, rfl, fun j u hu => ?_⟩⟩, fun v hv => wfI_iff.1 (hwf v (List.mem_of_mem_take hv))⟩
    rw [List.getElem?_map] at hu
    cases hzj : (zs.take len)[j]? with
    | none => rw [hzj] at hu; cases hu
    | some z =>
      rw [hzj, Option.map_some] at hu
      cases hu
      have hj := (List.getElem?_eq_some_iff.1 hzj).1
      rw [hlen] at hj
      have := hcell j (by omega)
      rw [List.getElem?_take_of_lt hj] at hzj
      rw [List.getD_eq_getElem?_getD, hzj, Option.getD_some] at this
      exact this

theorem cells3 {a : Addr} {cs : List Value} (h : w.cells? 0 a 3 = some cs) : ∃ c0 c1 c2, cs = [c0, c1, c2] ∧ cell w.heap (a.add 0) = some c0 ∧ cell w.heap (a.add 1) = some c1 ∧ cell w.heap (a.add 2) = some c2 := by
  obtain ⟨_, hl, hc⟩ := World.cells?_some h
  match cs, hl with
  | [c0, c1, c2], _ => exact ⟨c0, c1, c2, rfl, hc 0 (by omega), hc 1 (by omega), hc 2 (by omega)⟩

theorem uThing : Tryz.prog.underlying 22 = some (.slice 65) := by kernel_rfl
theorem cThing : Tryz.prog.cellsOf 65 = 3 := by kernel_rfl
theorem cInts : Tryz.prog.cellsOf 23 = 1 := by kernel_rfl
theorem cInt : Tryz.prog.cellsOf 3 = 1 := by kernel_rfl

/-- One thing, read. -/
theorem rd_thing {held : Bool} {c0 c1 c2 : Value} {x : DataW H' × List MemPlace} (h : DataW.trod enc Tryz.prog w 0 sp held fuel 65 [c0, c1, c2] = some x) :
    ∃ (y : Th7) (q : Option Addr) (c : Nat), c0 = .int .i64 y.1 ∧ c1 = .int .i64 y.2.1 ∧ c2 = .slice q y.2.2.length c ∧ Src w.heap 1 q y.2.2.length c (y.2.2.map (Value.int .i64 ·)) ∧ ∀ v ∈ y.2.2, I64 v := by
  obtain ⟨xs, n, _, _, _, hn, hf⟩ := DataW.trod_struct Tryz.underlying65 h
  have f0 : DataW.trod enc Tryz.prog w 0 sp held n 3 (List.take (Tryz.prog.cellsOf 3) (List.drop 0 [c0, c1, c2])) = xs[0]? := hf 0 _ rfl
  have f1 : DataW.trod enc Tryz.prog w 0 sp held n 3 (List.take (Tryz.prog.cellsOf 3) (List.drop 1 [c0, c1, c2])) = xs[1]? := hf 1 _ rfl
  have f2 : DataW.trod enc Tryz.prog w 0 sp held n 23 (List.take (Tryz.prog.cellsOf 23) (List.drop 2 [c0, c1, c2])) = xs[2]? := hf 2 _ rfl
  have hn : xs.length = 3 := hn
  rw [cInt] at f0 f1
  rw [cInts] at f2
  simp only [List.drop_zero, List.drop_succ_cons, List.take_succ_cons, List.take_zero] at f0 f1 f2
  have e0 : xs[0]? = some (xs[0]'(by omega)) := by simp
  have e1 : xs[1]? = some (xs[1]'(by omega)) := by simp
  have e2 : xs[2]? = some (xs[2]'(by omega)) := by simp
  rw [e0] at f0
  rw [e1] at f1
  rw [e2] at f2
  obtain ⟨a, ha, _, _⟩ := DataW.trod_int ty_int f0
  obtain ⟨b, hb, _, _⟩ := DataW.trod_int ty_int f1
  obtain ⟨p, c, zs, hz, hsrc, hwf⟩ := rd_ints ty_ints ty_int cInt f2
  exact ⟨(a, b, zs), p, c, (List.cons.inj ha).1, (List.cons.inj hb).1, (List.cons.inj hz).1, hsrc, hwf⟩

/-- The things, read. -/
theorem rd_things {held : Bool} {cs : List Value} {x : DataW H' × List MemPlace} (h : DataW.trod enc Tryz.prog w 0 sp held fuel 22 cs = some x) :
    ∃ (p : Option Addr) (c : Nat) (l : List Th7), cs = [.slice p l.length c] ∧ ThAt w.heap p l ∧ ∀ y ∈ l, ∀ v ∈ y.2.2, I64 v := by
  rcases DataW.trod_slice uThing h with ⟨rfl, _⟩ | ⟨a, len, cap, elems, rest, n, _, rfl, _, _, hl, hm, hlen, hel, _, _⟩
  · exact ⟨none, 0, [], rfl, .inl rfl, fun y hy => by simp at hy⟩
  · rw [cThing] at hel
    have each : ∀ i, i < len → ∃ (y : Th7) (q : Option Addr) (c : Nat), cell w.heap ((a.add (i * 3)).add 0) = some (.int .i64 y.1) ∧ cell w.heap ((a.add (i * 3)).add 1) = some (.int .i64 y.2.1) ∧ cell w.heap ((a.add (i * 3)).add 2) = some (.slice q y.2.2.length c) ∧
        Src w.heap 1 q y.2.2.length c (y.2.2.map (Value.int .i64 ·)) ∧ ∀ v ∈ y.2.2, I64 v := by
      intro i hi
      have h1 := hel i hi
      have hei : elems[i]? = some (elems[i]'(by omega)) := by simp
      rw [hei] at h1
      obtain ⟨cs, hcs, h2⟩ := Option.bind_eq_some_iff.1 h1
      obtain ⟨c0, c1, c2, rfl, k0, k1, k2⟩ := cells3 hcs
      obtain ⟨y, q, c, rfl, rfl, rfl, hs, hw⟩ := rd_thing h2
      exact ⟨y, q, c, k0, k1, k2, hs, hw⟩
    -- the list of them
    have mk : ∀ k, k ≤ len → ∃ l : List Th7, l.length = k ∧ (∀ j y, l[j]? = some y → ∃ q c, cell w.heap ((a.add (j * 3)).add 0) = some (.int .i64 y.1) ∧ cell w.heap ((a.add (j * 3)).add 1) = some (.int .i64 y.2.1) ∧ cell w.heap ((a.add (j * 3)).add 2) = some (.slice q y.2.2.length c) ∧
        Src w.heap 1 q y.2.2.length c (y.2.2.map (Value.int .i64 ·))) ∧ ∀ y ∈ l, ∀ v ∈ y.2.2, I64 v := by
      intro k
      induction k with
      | zero => exact fun _ => ⟨[], rfl, fun j y hj => by simp at hj, fun y hy => by simp at hy⟩
      | succ k ih =>
        intro hk
        obtain ⟨l, h1, h2, h3⟩ := ih (by omega)
        obtain ⟨y, q, c, k0, k1, k2, hs, hw⟩ := each k (by omega)
        refine ⟨l ++ [y], by simp [h1], fun j z hj => ?_, fun z hz => ?_⟩
        · by_cases e : j < l.length
          · rw [List.getElem?_append_left e] at hj
            exact h2 j z hj
          · have hjl := (List.getElem?_eq_some_iff.1 hj).1
            simp at hjl
            obtain rfl : j = k := by omega
            rw [List.getElem?_append_right (by omega), h1, Nat.sub_self] at hj
            simp at hj
            subst hj
            exact ⟨q, c, k0, k1, k2, hs⟩
        · rcases List.mem_append.1 hz with h4 | h4
          · exact h3 z h4
          · rw [List.mem_singleton.1 h4]; exact hw
    obtain ⟨l, h1, h2, h3⟩ := mk len (Nat.le_refl _)
    exact ⟨some a, cap, l, by rw [h1], .inr ⟨a, rfl, h2⟩, h3⟩
end

end Go.Proofs.YtkfdbgpegekcfaaGreatDoorP

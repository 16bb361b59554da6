/- From what a law's argument reads as to frames, parts and entries in memory. -/
import Derived.Test.YtokcgnbjkbhmiaaDoorMF4
import Derived.WalkKit
import Derived.ProofKit
import Derived.OpenShut
import Derived.Deep.Slices
import Derived.Lib.SmallJoins
namespace Go.Proofs.YtokcgnbjkbhmiaaDoor
open Go.RowKit Go.ChangeShapes Go.WideShapes Go.ChangeAt Go.Joins
set_option maxHeartbeats 4000000
set_option maxRecDepth 100000
set_option linter.unusedSimpArgs false
set_option linter.unusedVariables false

section
variable {H : Type} {enc : TypeId × Value → H}

theorem weightsAll_in {P : Program} {e : TypeId} {d : DataW H} : ∀ {l : List (DataW H)}, d ∈ l → ∀ n ∈ d.weights P e, n ∈ DataW.weightsAll P e l
  | d0 :: l, hd, n, hn => by
    simp only [DataW.weightsAll, List.mem_append]
    rcases List.mem_cons.1 hd with rfl | h
    · exact Or.inl hn
    · exact Or.inr (weightsAll_in h n hn)
  | [], hd, _, _ => by cases hd

theorem add_at {a : Addr} (hs : a.spot = none) (n : Nat) : a.add n = ⟨a.block, a.off + n, none⟩ := by
  obtain ⟨b, o, s⟩ := a
  subst hs
  unfold Addr.add
  split
  · rename_i h; subst h; rfl
  · rfl

/-- A list in memory, whatever its elements are. -/
theorem open_list {α : Type} [Inhabited α] {P : Program} {W : World} {t e : TypeId} {n : Nat} {cs : List Value} {x : DataW H × List MemPlace} (ht : P.underlying t = some (.slice e)) {k : Nat} (hk : P.cellsOf e = k) (hk0 : 0 < k) (hby : 0 < P.bytesOf e)
    (R : α → List Value → Prop)
    (hopen : ∀ n cs x, DataW.trod enc P W 0 (fun _ => true) true n e cs = some x → (∀ m ∈ x.1.weights P e, m ≤ reachBytes) → ∃ y, R y cs)
    (h : DataW.trod enc P W 0 (fun _ => true) true n t cs = some x) (hw : ∀ m ∈ x.1.weights P t, m ≤ reachBytes) :
    ∃ (a : Option Addr) (c : Nat) (l : List α), cs = [.slice a l.length c] ∧ l.length ≤ c ∧ l.length ≤ reachBytes ∧
      (0 < l.length → ∃ b o, a = some ⟨b, o, none⟩ ∧ ∀ i, (h : i < l.length) → ∃ vs, vs.length = k ∧ R l[i] vs ∧ ∀ j, j < k → W.cell? ⟨b, o + i * k + j, none⟩ = vs[j]?) := by
  rcases Go.Deep.open_slice ht h with ⟨rfl, rfl⟩ | ⟨a, len, cap, m, n', D, Pl, rfl, _, hl, hm, hmm, rfl, hx⟩
  · exact ⟨none, 0, [], rfl, Nat.le_refl _, Nat.zero_le _, fun h => absurd h (by simp)⟩
  have hlm : len ≤ m := by rw [hmm]; split <;> omega
  have hbound : len ≤ reachBytes := by
    have h1 := hw ((((List.range len).map D).length + ((List.range (m - len)).map fun j => D (len + j)).length) * P.bytesOf e) (by simp [DataW.weights, ht])
    rw [List.length_map, List.length_range] at h1
    have h2 : len * 1 ≤ (len + ((List.range (m - len)).map fun j => D (len + j)).length) * P.bytesOf e := Nat.mul_le_mul (by omega) hby
    omega
  have each : ∀ i, i < len → ∃ y : α, ∃ vs, vs.length = k ∧ R y vs ∧ ∀ j, j < k → W.cell? ((a.add (i * k)).add j) = vs[j]? := by
    intro i hi
    obtain ⟨cs', h1, h2⟩ := hx i (by omega)
    rw [hk] at h1
    obtain ⟨_, hlen, hcell⟩ := World.cells?_some h1
    obtain ⟨y, hy⟩ := hopen _ _ _ h2 (fun q hq => hw q (by
      simp only [DataW.weights, ht, List.mem_cons, List.mem_append]
      exact Or.inr (Or.inl (weightsAll_in (List.mem_map.2 ⟨i, List.mem_range.2 hi, rfl⟩) q hq))))
    exact ⟨y, cs', hlen, hy, fun j hj => by have := hcell j hj; simpa using this⟩
  obtain ⟨f, hf⟩ := Go.Deep.choose_lt each
  refine ⟨some a, cap, (List.range len).map f, by simp, by simpa using hl, by simpa using hbound, fun hp => ?_⟩
  have hp' : 0 < len := by simpa using hp
  have hspot : a.spot = none := by
    obtain ⟨vs, hvl, -, hc⟩ := hf 0 hp'
    have h0 := hc 0 hk0
    rw [Nat.zero_mul, List.getElem?_eq_getElem (by omega)] at h0
    have e : (a.add 0).add 0 = a := by simp [Addr.add]
    rw [e] at h0
    unfold World.cell? at h0
    split at h0
    · split at h0
      · cases h0
      · rename_i h; simpa using h
    · cases h0
  obtain ⟨b, o, s⟩ := a
  cases hspot
  refine ⟨b, o, rfl, fun i hi => ?_⟩
  have hi' : i < len := by simpa using hi
  obtain ⟨vs, hvl, hR, hc⟩ := hf i hi'
  refine ⟨vs, hvl, by simpa using hR, fun j hj => ?_⟩
  rw [← hc j hj, add_at (a := ⟨b, o, none⟩) rfl, add_at rfl]

theorem cEnt : Tryd.prog.cellsOf 57 = 5 := by kernel_rfl
theorem cPart : Tryd.prog.cellsOf 34 = 8 := by kernel_rfl
theorem cRange : Tryd.prog.cellsOf 24 = 3 := by kernel_rfl
theorem cTally : Tryd.prog.cellsOf 32 = 3 := by kernel_rfl
theorem cSum : Tryd.prog.cellsOf 30 = 2 := by kernel_rfl
theorem cVersion : Tryd.prog.cellsOf 55 = 2 := by kernel_rfl
theorem cInt : Tryd.prog.cellsOf 3 = 1 := by kernel_rfl
theorem cStr : Tryd.prog.cellsOf 9 = 1 := by kernel_rfl
theorem cBool : Tryd.prog.cellsOf 4 = 1 := by kernel_rfl
theorem cParts : Tryd.prog.cellsOf 26 = 1 := by kernel_rfl
theorem cEnts : Tryd.prog.cellsOf 22 = 1 := by kernel_rfl

instance : Inhabited Ent := ⟨⟨⟨#[]⟩, 0, 0, ⟨#[]⟩, false⟩⟩
instance : Inhabited Prt := ⟨⟨0, ⟨#[]⟩, ⟨#[]⟩, false, 0, 0, 0, []⟩⟩

theorem list5 {cs : List Value} (h : cs.length = 5) : ∃ a b c d e, cs = [a, b, c, d, e] := by
  match cs, h with
  | [a, b, c, d, e], _ => exact ⟨a, b, c, d, e, rfl⟩
theorem list2 {cs : List Value} (h : cs.length = 2) : ∃ a b, cs = [a, b] := by
  match cs, h with
  | [a, b], _ => exact ⟨a, b, rfl⟩
theorem list3 {cs : List Value} (h : cs.length = 3) : ∃ a b c, cs = [a, b, c] := by
  match cs, h with
  | [a, b, c], _ => exact ⟨a, b, c, rfl⟩
theorem list7 {cs : List Value} (h : cs.length = 7) : ∃ a b c d e f g, cs = [a, b, c, d, e, f, g] := by
  match cs, h with
  | [a, b, c, d, e, f, g], _ => exact ⟨a, b, c, d, e, f, g, rfl⟩
theorem list8 {cs : List Value} (h : cs.length = 8) : ∃ a b c d e f g i, cs = [a, b, c, d, e, f, g, i] := by
  match cs, h with
  | [a, b, c, d, e, f, g, i], _ => exact ⟨a, b, c, d, e, f, g, i, rfl⟩

section
variable {W : World} {n : Nat} {cs : List Value} {x : DataW H × List MemPlace}

theorem open_ent (h : DataW.trod enc Tryd.prog W 0 (fun _ => true) true n 57 cs = some x) :
    ∃ e : Ent, cs = [.string e.key, .int .i64 e.ctr, .int .i64 e.node, .string e.val, .bool e.dead] := by
  obtain ⟨y0, y1, y2, y3, m, -, hl, h0, h1, h2, h3⟩ := trod_struct4 Tryd.underlying57 h
  obtain ⟨c0, c1, c2, c3, c4, rfl⟩ := list5 (hl.trans cEnt)
  simp only [cStr, cVersion, cBool, List.drop_zero, List.drop_succ_cons, List.take_succ_cons, List.take_zero] at h0 h1 h2 h3
  obtain ⟨key, e0, -, -⟩ := DataW.trod_string Tryd.underlying9 h0
  obtain ⟨z0, z1, m, -, -, k0, k1⟩ := trod_struct2 Tryd.underlying55 h1
  simp only [cInt, List.drop_zero, List.drop_succ_cons, List.take_succ_cons, List.take_zero] at k0 k1
  obtain ⟨cnt, e1, -, -⟩ := DataW.trod_int Tryd.underlying3 k0
  obtain ⟨nd, e2, -, -⟩ := DataW.trod_int Tryd.underlying3 k1
  obtain ⟨val, e3, -, -⟩ := DataW.trod_string Tryd.underlying9 h2
  obtain ⟨del, e4, -⟩ := DataW.trod_bool Tryd.underlying4 h3
  simp at e0 e1 e2 e3 e4
  subst e0 e1 e2 e3 e4
  exact ⟨⟨key, cnt, nd, val, del⟩, rfl⟩

theorem open_ents (h : DataW.trod enc Tryd.prog W 0 (fun _ => true) true n 22 cs = some x) (hw : ∀ m ∈ x.1.weights Tryd.prog 22, m ≤ reachBytes) : ∃ v l, cs = [v] ∧ EntSl W v l := by
  obtain ⟨a, c, l, rfl, h1, h2, h3⟩ := open_list (α := Ent) Tryd.underlying22 cEnt (by omega) (of_decide_eq_true (by kernel_rfl)) (fun e cs => cs = [.string e.key, .int .i64 e.ctr, .int .i64 e.node, .string e.val, .bool e.dead]) (fun _ _ _ h _ => open_ent h) h hw
  refine ⟨_, l, rfl, a, c, rfl, h1, Nat.le_trans h2 (by decide), fun hp => ?_⟩
  obtain ⟨b, o, rfl, hE⟩ := h3 hp
  refine ⟨b, o, rfl, fun i hi => ?_⟩
  obtain ⟨vs, -, rfl, hc⟩ := hE i hi
  exact ⟨by simpa using hc 0 (by omega), by simpa using hc 1 (by omega), by simpa using hc 2 (by omega), by simpa using hc 3 (by omega), by simpa using hc 4 (by omega)⟩

theorem open_tal (h : DataW.trod enc Tryd.prog W 0 (fun _ => true) true n 32 cs = some x) : ∃ a b c : Int, cs = [.int .i64 a, .int .u64 b, .int .u64 c] := by
  obtain ⟨y0, y1, m, -, hl, h0, h1⟩ := trod_struct2 Tryd.underlying32 h
  obtain ⟨c0, c1, c2, rfl⟩ := list3 (hl.trans cTally)
  simp only [cInt, cSum, List.drop_zero, List.drop_succ_cons, List.take_succ_cons, List.take_zero] at h0 h1
  obtain ⟨a, e0, -, -⟩ := DataW.trod_int Tryd.underlying3 h0
  obtain ⟨xs, m, -, -, -, hl, hxs⟩ := DataW.trod_array Tryd.underlying30 h1
  have k0 := hxs 0 (by omega)
  have k1 := hxs 1 (by omega)
  simp only [cells64, Nat.zero_mul, Nat.one_mul, List.drop_zero, List.drop_succ_cons, List.take_succ_cons, List.take_zero] at k0 k1
  obtain ⟨z0, z1, rfl⟩ : ∃ z0 z1, xs = [z0, z1] := by
    match xs, hl with
    | [z0, z1], _ => exact ⟨z0, z1, rfl⟩
  obtain ⟨b, e1, -, -⟩ := DataW.trod_int Tryd.underlying28 (x := z0) k0
  obtain ⟨c, e2, -, -⟩ := DataW.trod_int Tryd.underlying28 (x := z1) k1
  simp at e0 e1 e2
  subst e0 e1 e2
  exact ⟨a, b, c, rfl⟩

theorem open_rng (h : DataW.trod enc Tryd.prog W 0 (fun _ => true) true n 24 cs = some x) : ∃ lo hi op, cs = [.string lo, .string hi, .bool op] := by
  obtain ⟨y0, y1, y2, m, -, hl, h0, h1, h2⟩ := Go.Deep.trod_struct3 Tryd.underlying24 h
  obtain ⟨c0, c1, c2, rfl⟩ := list3 (hl.trans cRange)
  simp only [cStr, cBool, List.drop_zero, List.drop_succ_cons, List.take_succ_cons, List.take_zero] at h0 h1 h2
  obtain ⟨lo, e0, -, -⟩ := DataW.trod_string Tryd.underlying9 h0
  obtain ⟨hi, e1, -, -⟩ := DataW.trod_string Tryd.underlying9 h1
  obtain ⟨op, e2, -⟩ := DataW.trod_bool Tryd.underlying4 h2
  simp at e0 e1 e2
  subst e0 e1 e2
  exact ⟨lo, hi, op, rfl⟩

theorem open_part (h : DataW.trod enc Tryd.prog W 0 (fun _ => true) true n 34 cs = some x) (hw : ∀ m ∈ x.1.weights Tryd.prog 34, m ≤ reachBytes) :
    ∃ p : Prt, ∃ sv, cs = [.int .i64 p.kind, .string p.lo, .string p.hi, .bool p.op, .int .i64 p.cnt, .int .u64 p.s0, .int .u64 p.s1, sv] ∧ EntSl W sv p.ents := by
  obtain ⟨y0, y1, y2, y3, m, rfl, hl, h0, h1, h2, h3⟩ := trod_struct4 Tryd.underlying34 h
  obtain ⟨c0, c1, c2, c3, c4, c5, c6, c7, rfl⟩ := list8 (hl.trans cPart)
  simp only [cInt, cRange, cTally, cEnts, List.drop_zero, List.drop_succ_cons, List.take_succ_cons, List.take_zero] at h0 h1 h2 h3
  obtain ⟨kind, e0, -, -⟩ := DataW.trod_int Tryd.underlying3 h0
  obtain ⟨lo, hi, op, e1⟩ := open_rng h1
  obtain ⟨cnt, s0, s1, e2⟩ := open_tal h2
  obtain ⟨sv, l, e3, hE⟩ := open_ents h3 (fun q hq => hw q (by
    simp only [DataW.weights, Tryd.underlying34]
    exact DataW.weights_mem_each (j := 3) rfl rfl q hq))
  simp at e0 e1 e2 e3
  obtain ⟨rfl, rfl, rfl⟩ := e1
  obtain ⟨rfl, rfl, rfl⟩ := e2
  subst e0 e3
  exact ⟨⟨kind, lo, hi, op, cnt, s0, s1, l⟩, _, rfl, hE⟩

theorem open_parts (h : DataW.trod enc Tryd.prog W 0 (fun _ => true) true n 26 cs = some x) (hw : ∀ m ∈ x.1.weights Tryd.prog 26, m ≤ reachBytes) : ∃ v l, cs = [v] ∧ PrtSl W v l := by
  obtain ⟨a, c, l, rfl, h1, h2, h3⟩ := open_list (α := Prt) Tryd.underlying26 cPart (by omega) (of_decide_eq_true (by kernel_rfl)) (fun p cs => ∃ sv, cs = [.int .i64 p.kind, .string p.lo, .string p.hi, .bool p.op, .int .i64 p.cnt, .int .u64 p.s0, .int .u64 p.s1, sv] ∧ EntSl W sv p.ents) (fun _ _ _ h h' => open_part h h') h hw
  refine ⟨_, l, rfl, a, c, rfl, h1, Nat.le_trans h2 (by decide), fun hp => ?_⟩
  obtain ⟨b, o, rfl, hE⟩ := h3 hp
  refine ⟨b, o, rfl, fun i hi => ?_⟩
  obtain ⟨vs, -, ⟨sv, rfl, hs⟩, hc⟩ := hE i hi
  exact ⟨sv, by simpa using hc 0 (by omega), by simpa using hc 1 (by omega), by simpa using hc 2 (by omega), by simpa using hc 3 (by omega), by simpa using hc 4 (by omega), by simpa using hc 5 (by omega), by simpa using hc 6 (by omega), by simpa using hc 7 (by omega), hs⟩

theorem trod_struct5 {P : Program} {t : TypeId} {f0 f1 f2 f3 f4 : Field} (ht : P.underlying t = some (.struct #[f0, f1, f2, f3, f4])) (h : DataW.trod enc P W 0 (fun _ => true) true n t cs = some x) :
    ∃ y0 y1 y2 y3 y4 m, x.1 = .agg [y0.1, y1.1, y2.1, y3.1, y4.1] ∧ cs.length = P.cellsOf t ∧ DataW.trod enc P W 0 (fun _ => true) true m f0.type ((cs.drop f0.offset).take (P.cellsOf f0.type)) = some y0 ∧
      DataW.trod enc P W 0 (fun _ => true) true m f1.type ((cs.drop f1.offset).take (P.cellsOf f1.type)) = some y1 ∧ DataW.trod enc P W 0 (fun _ => true) true m f2.type ((cs.drop f2.offset).take (P.cellsOf f2.type)) = some y2 ∧
      DataW.trod enc P W 0 (fun _ => true) true m f3.type ((cs.drop f3.offset).take (P.cellsOf f3.type)) = some y3 ∧ DataW.trod enc P W 0 (fun _ => true) true m f4.type ((cs.drop f4.offset).take (P.cellsOf f4.type)) = some y4 := by
  obtain ⟨xs, m, -, rfl, hl, hlen, hf⟩ := DataW.trod_struct ht h
  match xs, hlen with
  | [y0, y1, y2, y3, y4], _ => exact ⟨y0, y1, y2, y3, y4, m, by simp, hl, by simpa using hf 0 f0 rfl, by simpa using hf 1 f1 rfl, by simpa using hf 2 f2 rfl, by simpa using hf 3 f3 rfl, by simpa using hf 4 f4 rfl⟩

end

theorem open_partsV {W : World} {base : Nat} {v : Value} {d : DataW H} {p : List MemPlace} (hval : Value.okWide Tryd.prog W .any base 26 v)
    (h : DataW.Trod enc Tryd.prog W 0 (fun _ => true) true 26 v d p) (hw : ∀ m ∈ d.weights Tryd.prog 26, m ≤ reachBytes) :
    ∃ l : List Prt, PrtSl W v l := by
  obtain ⟨a, len, cap, rfl⟩ := okWide_slice Tryd.underlying26 hval
  obtain ⟨fuel, hf⟩ := h
  obtain ⟨v', l, e, hP⟩ := open_parts hf hw
  simp only [Value.cells] at e
  simp at e
  subst e
  exact ⟨l, hP⟩
end
end Go.Proofs.YtokcgnbjkbhmiaaDoor

/- What a tree that joins Maps answers, told by its rows. -/
import Derived.Test.YtgglbohcnlcagaaTO
namespace Go.Proofs.Ytgglbohcnlcagaa
open Go.RowKit
set_option maxHeartbeats 2000000
set_option maxRecDepth 100000
set_option linter.unusedSimpArgs false
set_option linter.unusedVariables false

/-- A Map as it can be. -/
def InM (s : Int × Int) : Prop := (0 ≤ s.1 ∧ s.1 < 18446744073709551616) ∧ 0 ≤ s.2 ∧ s.2 < 18446744073709551616
theorem jm_in (a b : Int × Int) : InM (jm a b) := by unfold InM jm; simp only [wu]; omega
theorem jm_l {b : Int × Int} (h : InM b) : jm zm b = b := by
  obtain ⟨b1, b2⟩ := b
  obtain ⟨h1, h2⟩ := h
  simp only [jm, wu, zm, Prod.mk.injEq] at *
  omega
theorem jm_r {b : Int × Int} (h : InM b) : jm b zm = b := by
  obtain ⟨b1, b2⟩ := b
  obtain ⟨h1, h2⟩ := h
  simp only [jm, wu, zm, Prod.mk.injEq] at *
  omega
theorem foldP_in : ∀ {P : List (Int × Int)}, (∀ s ∈ P, InM s) → InM (foldP jm zm P)
  | [], _ => by simp [foldP, InM]
  | a :: P, h => by
    have key : ∀ (P : List (Int × Int)) (a : Int × Int), InM a → InM (P.foldl jm a) := by
      intro P
      induction P with
      | nil => intro a h; exact h
      | cons b P ih => intro a h; exact ih _ (jm_in a b)
    exact key P a (h a (by simp))
theorem foldP_jm {A B : List (Int × Int)} (hA : ∀ s ∈ A, InM s) (hB : ∀ s ∈ B, InM s) : jm (foldP jm zm A) (foldP jm zm B) = foldP jm zm (A ++ B) := by
  by_cases h1 : A = []
  · subst h1; exact jm_l (foldP_in hB)
  by_cases h2 : B = []
  · subst h2; rw [List.append_nil]; exact jm_r (foldP_in hA)
  exact (foldP_app jm_assoc h1 h2).symm
/-- A tree of rows in order, each with a Map as it can be. -/
structure Good (T : T1) : Prop where
  srt : Srt T.rows
  inm : ∀ r ∈ T.rows, InM r.2.2
  sz : T.size ≤ 4398046511104
theorem good_nil : Good .nil := ⟨by simp [Srt, Tr.rows], by simp [Tr.rows], by simp [Tr.size]⟩
theorem good_put {T : T1} (h : Good T) {k : ByteArray} {v : Int} {s : Int × Int} (hs : InM s) (hz : T.size < 4398046511104) : Good (T.put k v s) := by
  refine ⟨Tr.put_srt k v s T h.srt, fun r hr => ?_, by have := Tr.put_size k v s T; omega⟩
  rw [Tr.put_rows k v s T h.srt] at hr
  rcases ins_mem hr with rfl | hr
  · exact hs
  · exact h.inm r hr
theorem good_puts : ∀ (L : List R1) (T : T1), Good T → (∀ r ∈ L, InM r.2.2) → T.size + L.length ≤ 4398046511104 → Good (puts L T)
  | [], T, h, _, _ => h
  | r :: L, T, h, hL, hz => by
    have h1 : Good (T.put r.1 r.2.1 r.2.2) := good_put h (hL r (by simp)) (by simp only [List.length_cons] at hz; omega)
    exact good_puts L (T.put r.1 r.2.1 r.2.2) h1 (fun x hx => hL x (by simp [hx])) (by have := Tr.put_size r.1 r.2.1 r.2.2 T; simp only [List.length_cons] at hz; omega)
/-- What a fold comes to. -/
def mf (T : T1) (i j : Int) : Int × Int := foldP jm zm (sl T.sums i.toNat (min j.toNat T.size))
theorem sl_mem {α : Type} {L : List α} {i j : Nat} {x : α} (h : x ∈ sl L i j) : x ∈ L := List.mem_of_mem_take (List.mem_of_mem_drop h)
theorem sums_in {T : T1} (h : Good T) {i j : Nat} : ∀ s ∈ sl T.sums i j, InM s := fun s hs => by
  obtain ⟨r, hr, rfl⟩ := List.mem_map.1 (sl_mem hs)
  exact h.inm r hr
theorem mf_app {T : T1} (h : Good T) {i j k : Int} (h1 : i ≤ j) (h2 : j ≤ k) (h3 : j ≤ T.size) : jm (mf T i j) (mf T j k) = mf T i k := by
  unfold mf
  rw [foldP_jm (sums_in h) (sums_in h)]
  have e : min j.toNat T.size = j.toNat := by omega
  rw [e, sl_app _ (by omega) (by omega)]
theorem mf_none {T : T1} {i j : Int} (h : j ≤ i) : mf T i j = zm := by
  unfold mf
  rw [sl_none _ (by omega)]; rfl
theorem mlen {w : World} {tb : Nat} {T : T1} (h : MTree w tb T) : Calls Try.prog 35 #[.pointer (some ⟨tb, 0, none⟩)] w fun e w' => e = .returned (.int .i64 ((T.size : Nat) : Int)) ∧ w = w' := by
  obtain ⟨pv, h1, h2⟩ := h.tr
  exact len1_any h1.at_ h2
theorem mget {w : World} {tb : Nat} {T : T1} (k : ByteArray) (h : MTree w tb T) : Calls Try.prog 42 #[.pointer (some ⟨tb, 0, none⟩), .string k] w fun e w' => e = .returned (.tuple #[.int .i64 ((T.get k).getD 0), .bool (T.get k).isSome]) ∧ w = w' := by
  obtain ⟨pv, h1, h2⟩ := h.tr
  exact get1_any k h1.at_ h2
theorem mrank {w : World} {tb : Nat} {T : T1} (k : ByteArray) (h : MTree w tb T) (hg : Good T) : Calls Try.prog 40 #[.pointer (some ⟨tb, 0, none⟩), .string k] w fun e w' => e = .returned (.int .i64 ((cnt k T.rows : Nat) : Int)) ∧ w = w' := by
  obtain ⟨pv, h1, h2⟩ := h.tr
  rw [← Tr.rank_rows k T hg.srt]
  exact rank1_any k h1.at_ h2 (by have := hg.sz; omega)
theorem mat {w : World} {tb : Nat} {T : T1} (i : Int) (hi : -9223372036854775808 ≤ i ∧ i ≤ 9223372036854775807) (h : MTree w tb T) (hg : Good T) : Calls Try.prog 41 #[.pointer (some ⟨tb, 0, none⟩), .int .i64 i] w fun e w' => e = .returned (atV1 (T.at_ i)) ∧ Ext w w' := by
  obtain ⟨pv, h1, h2⟩ := h.tr
  exact at1_any i hi h1.at_ h2 (by have := hg.sz; omega)
theorem mfold {w : World} {tb : Nat} {T : T1} (i j : Int) (hi : -9223372036854775808 ≤ i ∧ i ≤ 9223372036854775807) (hj : -9223372036854775808 ≤ j ∧ j ≤ 9223372036854775807) (h : MTree w tb T) (hg : Good T) :
    Calls Try.prog 38 #[.pointer (some ⟨tb, 0, none⟩), .int .i64 i, .int .i64 j] w fun e w' => e = .returned (.agg #[.int .u64 (mf T i j).1, .int .u64 (mf T i j).2]) ∧ Ext w w' := by
  obtain ⟨pv, h1, h2⟩ := h.tr
  have h0 : ∀ T : T1, T.wt (fun _ => 0) = 0 := fun T => by induction T with
    | nil => rfl
    | node l k v s r h1 h2 => simp [Tr.wt, h1, h2]
  refine (fold1_any jokM (n := 0) i j hi hj h1.at_ (by simp) h2 trivial hg.sz (by rw [h0]; exact Nat.le_refl _)).mono ?_
  rintro e w' ⟨rfl, hx, -⟩
  refine ⟨?_, hx.ext⟩
  have := Tr.fold_rows (z := zm) jm_assoc T i j
  rw [this]; rfl
theorem neq_map (w : World) (b c y z : Int) : (binOp .neq 62 (.agg #[.int .u64 b, .int .u64 c]) (.agg #[.int .u64 y, .int .u64 z])).run Try.prog w = .ok (.bool (!decide (b = y ∧ c = z))) w := by
  go_simp
  by_cases h1 : b = y <;> by_cases h2 : c = z <;> simp [*]
theorem eql_map (w : World) (b c y z : Int) : (binOp .eql 62 (.agg #[.int .u64 b, .int .u64 c]) (.agg #[.int .u64 y, .int .u64 z])).run Try.prog w = .ok (.bool (decide (b = y ∧ c = z))) w := by
  go_simp
  by_cases h1 : b = y <;> by_cases h2 : c = z <;> simp [*]
theorem neq_map_same (w : World) (b c : Int) : (binOp .neq 62 (.agg #[.int .u64 b, .int .u64 c]) (.agg #[.int .u64 b, .int .u64 c])).run Try.prog w = .ok (.bool false) w := by
  rw [neq_map]; simp
end Go.Proofs.Ytgglbohcnlcagaa

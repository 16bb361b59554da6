/- What a tree that joins texts answers, told by its rows; the walk of TreeTexts. -/
import Derived.Test.YtgglbohcnlcagaaTI2
import Derived.Test.YtgglbohcnlcagaaTH2
import Derived.Test.YtgglbohcnlcagaaTN
import Derived.Test.YtgglbohcnlcagaaTM
namespace Go.Proofs.Ytgglbohcnlcagaa
open Go.RowKit
set_option maxHeartbeats 2000000
set_option maxRecDepth 100000
set_option linter.unusedSimpArgs false
set_option linter.unusedVariables false
theorem en_TreeTexts : Enters Try.prog 8 := ⟨_, Try.func8, by kernel_rfl, rfl⟩

abbrev P2 := ByteArray × ByteArray
def PairsAt (w : World) (b o : Nat) (L : List P2) : Prop := ∀ i, (h : i < L.length) → w.cell? ⟨b, o + i * 2, none⟩ = some (.string L[i].1) ∧ w.cell? ⟨b, o + i * 2 + 1, none⟩ = some (.string L[i].2)
theorem PairsAt.xt {Sp : Option Nat} {w w' : World} {b o : Nat} {L : List P2} (h : PairsAt w b o L) (hx : Xt Sp w w') (hn : Sp ≠ some b) : PairsAt w' b o L := fun i hi => ⟨hx.rd (h i hi).1 hn, hx.rd (h i hi).2 hn⟩
def PairsSl (w : World) (v : Value) (L : List P2) : Prop := ∃ a c, v = .slice a L.length c ∧ L.length ≤ c ∧ L.length ≤ 4398046511104 ∧ (0 < L.length → ∃ b o, a = some ⟨b, o, none⟩ ∧ PairsAt w b o L)
abbrev e0 : ByteArray := ⟨#[]⟩
def cc (L : List ByteArray) : ByteArray := L.foldl cat e0
theorem cat_assoc (a b c : ByteArray) : cat (cat a b) c = cat a (cat b c) := ByteArray.append_assoc
theorem cat_e (a : ByteArray) : cat e0 a = a := by
  apply ByteArray.ext
  show (e0 ++ a).data = a.data
  rw [ByteArray.data_append]
  exact Array.empty_append
theorem foldP_cc (L : List ByteArray) : foldP cat e0 L = cc L := by
  cases L with
  | nil => rfl
  | cons a L => simp only [foldP, cc, List.foldl_cons, cat_e]
theorem cc_snoc (L : List ByteArray) (a : ByteArray) : cc (L ++ [a]) = cc L ++ a := by unfold cc; rw [List.foldl_append]; rfl
theorem cc_size (L : List ByteArray) : (cc L).size = (L.map ByteArray.size).sum := by
  have key : ∀ (L : List ByteArray) (a : ByteArray), (L.foldl cat a).size = a.size + (L.map ByteArray.size).sum := by
    intro L
    induction L with
    | nil => intro a; simp
    | cons b L ih => intro a; simp only [List.foldl_cons, ih, List.map_cons, List.sum_cons, cat, ByteArray.size_append]; omega
  have h1 := key L e0
  have h2 : e0.size = 0 := rfl
  unfold cc
  omega
theorem sl_step {α : Type} (L : List α) {m : Nat} (hm : m < L.length) (i j : Nat) : sl (L.take (m + 1)) i j = sl (L.take m) i j ++ (if i ≤ m ∧ m < j then [L[m]] else []) := by
  have hl : (L.take m).length = m := by rw [List.length_take]; omega
  rw [List.take_succ_eq_append_getElem hm, sl_split, hl]
  have e1 : sl (L.take m) i (min j m) = sl (L.take m) i j := by
    unfold sl
    by_cases h : j ≤ m
    · rw [Nat.min_eq_left h]
    · rw [Nat.min_eq_right (by omega), List.take_of_length_le (by omega : (L.take m).length ≤ m), List.take_of_length_le (by omega : (L.take m).length ≤ j)]
  have e2 : sl ([] : List α) (i - m - 1) (j - m - 1) = [] := by simp [sl]
  rw [e1, e2, List.append_nil]
theorem sum_take_le : ∀ (L : List Nat) (m : Nat), (L.take m).sum ≤ L.sum
  | [], m => by simp
  | a :: L, 0 => by simp
  | a :: L, m + 1 => by have := sum_take_le L m; simp only [List.take_succ_cons, List.sum_cons]; omega
theorem sum_drop_le : ∀ (L : List Nat) (m : Nat), (L.drop m).sum ≤ L.sum
  | [], m => by simp
  | a :: L, 0 => by simp
  | a :: L, m + 1 => by have := sum_drop_le L m; simp only [List.drop_succ_cons, List.sum_cons]; omega
theorem sl_sum (L : List ByteArray) (i j : Nat) : ((sl L i j).map ByteArray.size).sum ≤ (L.map ByteArray.size).sum := by
  unfold sl
  rw [List.map_drop, List.map_take]
  exact Nat.le_trans (sum_drop_le _ _) (sum_take_le _ _)
theorem wt_sums : ∀ T : T2, T.wt ByteArray.size = (T.sums.map ByteArray.size).sum
  | .nil => rfl
  | .node l k v s r => by
    have h1 := wt_sums l
    have h2 := wt_sums r
    simp only [Tr.sums] at h1 h2 ⊢
    simp only [Tr.wt, Tr.rows, List.map_append, List.map_cons, List.sum_append, List.sum_cons, h1, h2]
    omega
def puts2 (L : List P2) (T : T2) : T2 := L.foldl (fun T r => T.put r.1 r.2 r.2) T
theorem puts2_take {L : List P2} {m : Nat} (h : m < L.length) (T : T2) : puts2 (L.take (m + 1)) T = (puts2 (L.take m) T).put L[m].1 L[m].2 L[m].2 := by
  unfold puts2; rw [List.take_succ_eq_append_getElem h, List.foldl_append]; rfl
def tot (L : List P2) : Nat := (L.map (fun p => p.2.size)).sum
theorem tot_take {L : List P2} {m : Nat} (h : m < L.length) : tot (L.take (m + 1)) = tot (L.take m) + L[m].2.size := by
  unfold tot
  rw [List.take_succ_eq_append_getElem h, List.map_append, List.sum_append]
  rfl
/-- A tree of texts under themselves. -/
structure Good2 (T : T2) (n b : Nat) : Prop where
  srt : Srt T.rows
  same : ∀ r ∈ T.rows, r.2.1 = r.2.2
  sz : T.size ≤ n
  wt : T.wt ByteArray.size ≤ b
theorem good2_put {T : T2} {n b : Nat} (h : Good2 T n b) (k s : ByteArray) : Good2 (T.put k s s) (n + 1) (b + s.size) := by
  refine ⟨Tr.put_srt k s s T h.srt, fun r hr => ?_, by have := Tr.put_size k s s T; have := h.sz; omega, by have := Tr.put_wt ByteArray.size k s s T; have := h.wt; omega⟩
  rw [Tr.put_rows k s s T h.srt] at hr
  rcases ins_mem hr with rfl | hr
  · rfl
  · exact h.same r hr
theorem good2_puts (L : List P2) (m : Nat) (hm : m ≤ L.length) : Good2 (puts2 (L.take m) .nil) m (tot (L.take m)) := by
  induction m with
  | zero => exact ⟨by simp [puts2, Srt, Tr.rows], by simp [puts2, Tr.rows], by simp [puts2, Tr.size], by simp [puts2, Tr.wt]⟩
  | succ m ih =>
    rw [puts2_take (by omega), tot_take (by omega)]
    exact good2_put (ih (by omega)) _ _
structure STree (w : World) (tb : Nat) (T : T2) : Prop where
  tr : ∃ pv, TreeW2 w tb e0 44 #[] pv ∧ IsTree2 none cat e0 w pv T
theorem STree.ext {w w' : World} {tb : Nat} {T : T2} (h : STree w tb T) (hx : Ext w w') : STree w' tb T := by
  obtain ⟨pv, h1, h2⟩ := h.tr
  exact ⟨pv, h1.xt (Xt.of hx : Xt none _ _) (by simp), h2.xt (Xt.of hx)⟩
theorem sput {tb : Nat} {T : T2} {w : World} (k s : ByteArray) (h : STree w tb T) (hsz : T.size + 1 ≤ 4611686018427387904) (hwt : T.wt ByteArray.size + s.size ≤ 9223372036854775807) :
    Calls Try.prog 45 #[.pointer (some ⟨tb, 0, none⟩), .string k, .string s, .string s] w fun e w' => e = .returned (.tuple #[.string ((T.get k).getD e0), .bool (T.get k).isSome]) ∧ STree w' tb (T.put k s s) ∧ Xl [tb] w w' := by
  obtain ⟨pv, h1, h2⟩ := h.tr
  refine (tput2_any jokTexts (n := 0) k s s h1 (by simp) h2 trivial hsz hwt).mono ?_
  rintro e w' ⟨rfl, pv', j, h3, h4, h5, -, -⟩
  exact ⟨rfl, ⟨pv', h3, h4⟩, h5⟩
theorem slen {w : World} {tb : Nat} {T : T2} (h : STree w tb T) : Calls Try.prog 46 #[.pointer (some ⟨tb, 0, none⟩)] w fun e w' => e = .returned (.int .i64 ((T.size : Nat) : Int)) ∧ w = w' := by
  obtain ⟨pv, h1, h2⟩ := h.tr
  exact len2_any h1.at_ h2
theorem sget {w : World} {tb : Nat} {T : T2} (k : ByteArray) (h : STree w tb T) : Calls Try.prog 48 #[.pointer (some ⟨tb, 0, none⟩), .string k] w fun e w' => e = .returned (.tuple #[.string ((T.get k).getD e0), .bool (T.get k).isSome]) ∧ w = w' := by
  obtain ⟨pv, h1, h2⟩ := h.tr
  exact get2_any k h1.at_ h2
theorem sat2 {w : World} {tb : Nat} {T : T2} (i : Int) (hi : -9223372036854775808 ≤ i ∧ i ≤ 9223372036854775807) (h : STree w tb T) (hsz : T.size ≤ 4611686018427387904) : Calls Try.prog 47 #[.pointer (some ⟨tb, 0, none⟩), .int .i64 i] w fun e w' => e = .returned (atV2 (T.at_ i)) ∧ Ext w w' := by
  obtain ⟨pv, h1, h2⟩ := h.tr
  exact at2_any i hi h1.at_ h2 hsz
theorem sfold {w : World} {tb : Nat} {T : T2} (i j : Int) (hi : -9223372036854775808 ≤ i ∧ i ≤ 9223372036854775807) (hj : -9223372036854775808 ≤ j ∧ j ≤ 9223372036854775807) (h : STree w tb T) (hsz : T.size ≤ 4398046511104) (hwt : T.wt ByteArray.size ≤ 9223372036854775807) :
    Calls Try.prog 49 #[.pointer (some ⟨tb, 0, none⟩), .int .i64 i, .int .i64 j] w fun e w' => e = .returned (.string (cc (sl T.sums i.toNat (min j.toNat T.size)))) ∧ Ext w w' := by
  obtain ⟨pv, h1, h2⟩ := h.tr
  refine (fold2_any jokTexts (n := 0) i j hi hj h1.at_ (by simp) h2 trivial hsz hwt).mono ?_
  rintro e w' ⟨rfl, hx, -⟩
  refine ⟨?_, hx.ext⟩
  have := Tr.fold_rows (J := cat) (z := e0) cat_assoc T i j
  rw [this, foldP_cc]
theorem texts_at {T : T2} {n b : Nat} (hg : Good2 T n b) {m : Nat} (hm : m < T.size) : ∃ k t : ByteArray, T.at_ (m : Int) = some (k, t) ∧ T.get k = some t ∧ ∃ h : m < T.sums.length, T.sums[m] = t := by
  have hl : m < T.rows.length := by rw [Tr.rows_len]; exact hm
  refine ⟨T.rows[m].1, T.rows[m].2.1, ?_, ?_, by rw [Tr.sums_len]; exact hm, ?_⟩
  · rw [Tr.at_rows, if_neg (by omega), Int.toNat_natCast, List.getElem?_eq_getElem hl]; rfl
  · rw [Tr.get_rows _ _ hg.srt, fnd_at hg.srt m hl]; rfl
  · rw [List.getElem_map]
    exact (hg.same _ (List.getElem_mem hl)).symm
end Go.Proofs.Ytgglbohcnlcagaa

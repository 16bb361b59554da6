/- Two timers that have nothing in common; alarms that are set one behind the other, as plain data. -/
import Derived.Test.YtiimoaplhhnklaaSG
namespace Go.Proofs.Ytiimoaplhhnklaa
open Go.RowKit
set_option maxHeartbeats 4000000
set_option maxRecDepth 100000
set_option linter.unusedSimpArgs false
set_option linter.unusedVariables false

def fp (tb mb : Nat) (v : Value) : List Nat := tb :: mb :: v.ownBlock.toList
theorem TimerAt.fp_lt {B : Nat} {w : World} {tb mb : Nat} {v : Value} {l : List Al} (h : TimerAt B w tb mb v l) : ∀ x ∈ fp tb mb v, B ≤ x ∧ x < w.heap.size := fun x hx => by
  have hl := h.lt
  have hb := h.lo
  simp [fp] at hx
  rcases hx with rfl | rfl | hx
  · exact ⟨hb.1, hl.1⟩
  · exact ⟨hb.2.1, hl.2.1⟩
  · exact hl.2.2.1 x hx
theorem TimerAt.away {B : Nat} {w w' : World} {tb mb : Nat} {v : Value} {l : List Al} {L : List Nat} (h : TimerAt B w tb mb v l) (hx : Xl L w w') (hn : ∀ x ∈ fp tb mb v, x ∉ L) : TimerAt B w' tb mb v l :=
  h.keep hx (hn _ (by simp [fp])) (hn _ (by simp [fp])) (fun g hg => hn _ (by simp [fp, hg]))
theorem TimerAt.lower {B B' : Nat} {w : World} {tb mb : Nat} {v : Value} {l : List Al} (h : TimerAt B w tb mb v l) (hB : B' ≤ B) : TimerAt B' w tb mb v l :=
  ⟨h.blk, ⟨h.own.1, h.own.2.imp id (fun ⟨g, cap, cur, e1, e2, e3⟩ => ⟨g, cap, cur, e1, Nat.le_trans hB e2, e3⟩)⟩, h.map, h.ok, ⟨Nat.le_trans hB h.lo.1, Nat.le_trans hB h.lo.2.1, Nat.le_trans hB h.lo.2.2⟩⟩
structure Two (B : Nat) (w : World) (ta ma : Nat) (va : Value) (la : List Al) (tb mb : Nat) (vb : Value) (lb : List Al) : Prop where
  a : TimerAt B w ta ma va la
  b : TimerAt B w tb mb vb lb
  ap : ∀ x ∈ fp ta ma va, x ∉ fp tb mb vb
theorem Two.sym {B : Nat} {w : World} {ta ma : Nat} {va : Value} {la : List Al} {tb mb : Nat} {vb : Value} {lb : List Al} (h : Two B w ta ma va la tb mb vb lb) : Two B w tb mb vb lb ta ma va la :=
  ⟨h.b, h.a, fun x hx hy => h.ap x hy hx⟩
theorem Two.ext {B : Nat} {w w' : World} {ta ma : Nat} {va : Value} {la : List Al} {tb mb : Nat} {vb : Value} {lb : List Al} (h : Two B w ta ma va la tb mb vb lb) (hx : Ext w w') : Two B w' ta ma va la tb mb vb lb := ⟨h.a.ext hx, h.b.ext hx, h.ap⟩
theorem Two.wa {B : Nat} {w w' : World} {ta ma : Nat} {va : Value} {la la' : List Al} {tb mb : Nat} {vb : Value} {lb : List Al} (h : Two B w ta ma va la tb mb vb lb) (hp : TPost B w ta ma va la' w') :
    ∃ va', Two B w' ta ma va' la' tb mb vb lb ∧ ∀ w0 : World, w0.heap.size ≤ B → Ext w0 w → Ext w0 w' := by
  obtain ⟨va', h1, h2, h3⟩ := hp
  refine ⟨va', ⟨h1, h.b.away h2 (fun x hx hy => h.ap x hy hx), fun x hx hy => ?_⟩, fun w0 hw0 h0 => Xl.ext h0 h2 (fun k hk => by have := (h.a.fp_lt k hk).1; omega)⟩
  simp [fp] at hx
  rcases hx with rfl | rfl | hx
  · exact h.ap _ (by simp [fp]) hy
  · exact h.ap _ (by simp [fp]) hy
  · rcases h3 with e | ⟨g, e1, e2⟩
    · rw [e] at hx; exact h.ap x (by simp [fp, hx]) hy
    · rw [e2] at hx
      have := (h.b.fp_lt x hy).2
      simp at hx
      omega
theorem Two.wb {B : Nat} {w w' : World} {ta ma : Nat} {va : Value} {la : List Al} {tb mb : Nat} {vb : Value} {lb lb' : List Al} (h : Two B w ta ma va la tb mb vb lb) (hp : TPost B w tb mb vb lb' w') :
    ∃ vb', Two B w' ta ma va la tb mb vb' lb' ∧ ∀ w0 : World, w0.heap.size ≤ B → Ext w0 w → Ext w0 w' := by
  obtain ⟨vb', h1, h2⟩ := h.sym.wa hp
  exact ⟨vb', h1.sym, h2⟩
/-- Names behind one another, in an argument. -/
structure NmO (w : World) (b o : Nat) (n : Nm) : Prop where
  c0 : w.cell? ⟨b, o, none⟩ = some (.int .i64 n.1)
  c1 : w.cell? ⟨b, o + 1, none⟩ = some (.int .i64 n.2.1)
  c2 : w.cell? ⟨b, o + 2, none⟩ = some (.int .i64 n.2.2)
theorem NmO.ext {w w' : World} {b o : Nat} {n : Nm} (h : NmO w b o n) (hx : Ext w w') : NmO w' b o n := ⟨cell_ext hx h.c0, cell_ext hx h.c1, cell_ext hx h.c2⟩
def NamesSl (w : World) (v : Value) (N : List Nm) : Prop := ∃ a c, v = .slice a N.length c ∧ N.length ≤ c ∧ N.length ≤ 140737488351232 ∧ (0 < N.length → ∃ b o, a = some ⟨b, o, none⟩ ∧ ∀ i, (h : i < N.length) → NmO w b (o + i * 3) N[i])
def IntsAt (w : World) (b o : Nat) (P : List Int) : Prop := ∀ i, (h : i < P.length) → w.cell? ⟨b, o + i, none⟩ = some (.int .i64 P[i])
def IntsSl (w : World) (v : Value) (P : List Int) : Prop := ∃ a c, v = .slice a P.length c ∧ P.length ≤ c ∧ P.length ≤ 140737488351232 ∧ (∀ x ∈ P, -9223372036854775808 ≤ x ∧ x ≤ 9223372036854775807) ∧ (0 < P.length → ∃ b o, a = some ⟨b, o, none⟩ ∧ IntsAt w b o P)
/-! Plain. -/
def lastV (m : Nm) : List (Nm × Int) → Option Int
  | [] => none
  | p :: P => (lastV m P).or (if m = p.1 ∧ badT p.2 = false then some p.2 else none)
def runL (P : List (Nm × Int)) (l : List Al) : List Al := P.foldl (fun l p => setL p.1 p.2 l) l
theorem ok_setL {n : Nm} {t : Int} {l : List Al} (h : Ok l) : Ok (setL n t l) := by
  unfold setL
  split
  · exact h
  · exact ok_setA h
theorem setL_len (n : Nm) (t : Int) (l : List Al) : (setL n t l).length ≤ l.length + 1 := by
  unfold setL
  split
  · omega
  · exact setA_len n t l
theorem runL_ok : ∀ (P : List (Nm × Int)) (l : List Al), Ok l → Ok (runL P l)
  | [], l, h => h
  | p :: P, l, h => runL_ok P (setL p.1 p.2 l) (ok_setL h)
theorem runL_len : ∀ (P : List (Nm × Int)) (l : List Al), (runL P l).length ≤ l.length + P.length
  | [], l => by simp [runL]
  | p :: P, l => by
    have h1 := runL_len P (setL p.1 p.2 l)
    have h2 := setL_len p.1 p.2 l
    simp only [runL, List.foldl_cons, List.length_cons] at *
    omega
theorem runL_at (m : Nm) : ∀ (P : List (Nm × Int)) (l : List Al), Ok l → atN m (runL P l) = (lastV m P).or (atN m l)
  | [], l, h => by simp [runL, lastV]
  | p :: P, l, h => by
    have ih := runL_at m P (setL p.1 p.2 l) (ok_setL h)
    have e : runL (p :: P) l = runL P (setL p.1 p.2 l) := rfl
    rw [e, ih, show lastV m (p :: P) = (lastV m P).or (if m = p.1 ∧ badT p.2 = false then some p.2 else none) from rfl, Option.or_assoc]
    congr 1
    unfold setL
    cases hb : badT p.2 with
    | true => simp
    | false =>
      simp only [Bool.false_eq_true, if_false]
      rw [atN_setA m h]
      by_cases hm : m = p.1 <;> simp [hm]
theorem runL_take {P : List (Nm × Int)} {m : Nat} (h : m < P.length) : runL (P.take (m + 1)) [] = setL P[m].1 P[m].2 (runL (P.take m) []) := by
  unfold runL; rw [List.take_succ_eq_append_getElem h, List.foldl_append]; rfl
def back : List (Nm × Int) → List Al
  | [] => []
  | p :: P => if badT p.2 then back P else if (atN p.1 (back P)).isSome then back P else setA p.1 p.2 (back P)
theorem back_ok : ∀ P : List (Nm × Int), Ok (back P)
  | [] => ok_nil
  | p :: P => by
    have ih := back_ok P
    unfold back
    split
    · exact ih
    · split
      · exact ih
      · exact ok_setA ih
theorem back_len : ∀ P : List (Nm × Int), (back P).length ≤ P.length
  | [] => by simp [back]
  | p :: P => by
    have ih := back_len P
    have h2 := setA_len p.1 p.2 (back P)
    unfold back
    simp only [List.length_cons]
    split
    · omega
    · split <;> omega
theorem back_at (m : Nm) : ∀ P : List (Nm × Int), atN m (back P) = lastV m P
  | [] => rfl
  | p :: P => by
    have ih := back_at m P
    have ihp := back_at p.1 P
    unfold back lastV
    cases hb : badT p.2 with
    | true => simp [ih]
    | false =>
      simp only [Bool.false_eq_true, if_false]
      by_cases hs : (atN p.1 (back P)).isSome = true
      · rw [if_pos hs, ih]
        by_cases hm : m = p.1
        · subst hm
          rw [ihp] at hs
          obtain ⟨t, ht⟩ := Option.isSome_iff_exists.1 hs
          rw [ht]; rfl
        · simp [hm]
      · rw [if_neg hs, atN_setA m (back_ok P)]
        by_cases hm : m = p.1
        · subst hm
          rw [← ihp]
          cases ha : atN p.1 (back P) with
          | none => simp
          | some t => rw [ha] at hs; simp at hs
        · simp [hm, ih]
theorem back_is (P : List (Nm × Int)) : back P = runL P [] := ok_uniq (back_ok P) (runL_ok P [] ok_nil) fun m => by
  rw [back_at, runL_at m P [] ok_nil]
  simp [atN]
theorem setA_new {n : Nm} {t : Int} {l : List Al} (h : atN n l = none) : (setA n t l).length = l.length + 1 := by
  unfold setA
  rw [insA_len, del_none h]
theorem del_head {x : Al} {l : List Al} (h : Ok (x :: l)) : del x.1 (x :: l) = l ∧ (atN x.1 (x :: l)) = some x.2 ∧ Ok l := by
  have hn := List.nodup_cons.1 (show (x.1 :: l.map (·.1)).Nodup from h.nod)
  refine ⟨?_, atN_some h (by simp), ⟨(List.pairwise_cons.1 h.srt).2, hn.2⟩⟩
  unfold del
  rw [List.filter_cons]
  simp only [ne_eq, not_true_eq_false, decide_false, Bool.false_eq_true, if_false]
  exact List.filter_eq_self.2 fun y hy => by
    simp only [decide_eq_true_eq]
    intro e
    exact hn.1 (List.mem_map.2 ⟨y, hy, e⟩)
end Go.Proofs.Ytiimoaplhhnklaa

/- The answer to a frame. -/
import Derived.Test.YtgglbohcnlcagaaFH
import Derived.Test.YtgglbohcnlcagaaF9
namespace Go.Proofs.Ytgglbohcnlcagaa
open Go.RowKit
set_option maxHeartbeats 4000000
set_option maxRecDepth 100000
set_option linter.unusedSimpArgs false
set_option linter.unusedVariables false
theorem en_fAnswer : Enters Try.prog 57 := ⟨_, Try.func57, by kernel_rfl, rfl⟩

theorem frmChk_zero {f t o li nu tu : Int} {l : List Prt} (h : frmChk ⟨f, t, o, li, nu, tu, l⟩ = 0) : turnOk f o tu ∧ partsChk l = 0 := by
  rw [frmChk_eq] at h
  split at h
  · simp at h
  · split at h
    · simp at h
    · split at h
      · simp at h
      · rename_i h3
        split at h
        · rename_i h4; exact absurd h h4
        · rename_i h4; exact ⟨by simpa using h3, by simpa using h4⟩
theorem entsSum_mem {l : List Prt} {p : Prt} (h : p ∈ l) : p.ents.length ≤ entsSum l := by
  unfold entsSum
  induction l with
  | nil => cases h
  | cons q r ih =>
    rw [List.map_cons, List.sum_cons]
    cases h with
    | head => omega
    | tail _ h => have := ih h; omega
theorem partsChk_zero {l : List Prt} (h : partsChk l = 0) : l.length ≤ 1073741824 ∧ ∀ p ∈ l, p.ents.length ≤ 1073741824 := by
  rw [partsChk_eq] at h
  split at h
  · simp at h
  · split at h
    · simp at h
    · refine ⟨by omega, fun p hp => ?_⟩
      have := entsSum_mem hp
      omega

/-- What comes of Answer. -/
def AnsOut (f t o li nu tu : Int) (l m : List Prt) (w : World) (e : Ending) (w' : World) : Prop :=
  (frmChk ⟨f, t, o, li, nu, tu, l⟩ ≠ 0 → e = .returned (.tuple #[.agg #[.int .i64 0, .int .i64 0, .int .i64 0, .int .i64 0, .int .i64 0, .int .i64 0, .slice none 0 0], .int .i64 (frmChk ⟨f, t, o, li, nu, tu, l⟩)])) ∧
  (frmChk ⟨f, t, o, li, nu, tu, l⟩ = 0 → frmChk ⟨t, f, o, li, nu, tu + 1, m⟩ ≠ 0 → e = .returned (.tuple #[.agg #[.int .i64 0, .int .i64 0, .int .i64 0, .int .i64 0, .int .i64 0, .int .i64 0, .slice none 0 0], .int .i64 (frmChk ⟨t, f, o, li, nu, tu + 1, m⟩)])) ∧
  (frmChk ⟨f, t, o, li, nu, tu, l⟩ = 0 → frmChk ⟨t, f, o, li, nu, tu + 1, m⟩ = 0 → ∃ sv, e = .returned (.tuple #[.agg #[.int .i64 t, .int .i64 f, .int .i64 o, .int .i64 li, .int .i64 nu, .int .i64 (tu + 1), sv], .int .i64 0]) ∧ PrtOwn w.heap.size w' sv m) ∧ Ext w w'

theorem fAnswer_any (f t o li nu tu : Int) (l m : List Prt) (sv pv : Value) (w : World) (hs : PrtSl w sv l) (hp : PrtSl w pv m) :
    Calls Try.prog 57 #[.agg #[.int .i64 f, .int .i64 t, .int .i64 o, .int .i64 li, .int .i64 nu, .int .i64 tu, sv], pv] w fun e w' => AnsOut f t o li nu tu l m w e w' := by
  have HS := hid_mk hs
  have HPV := hid_mk hp
  obtain ⟨a, c, rfl, -, -, -⟩ := hs
  obtain ⟨pa, pc, rfl, -, -, -⟩ := hp
  unfold AnsOut
  go_enter Try.func57, Try.ntmps57
  go_wp2_with fail
  refine (fCheck_any f t o li nu tu l _ _ (HS.out.ext (by (repeat (first | exact Ext.refl _ | apply Ext.drew_left | apply Ext.drew | apply Ext.alloc))))).mono ?_
  rintro e w1 ⟨rfl, hx1⟩
  have HB : FrmAt w1 w.heap.size f t o li nu tu (.slice a l.length c) := FrmAt.ext (w := (w.alloc _).alloc _) ⟨by go_simp, by go_simp, by go_simp, by go_simp, by go_simp, by go_simp, by go_simp, by go_simp, by go_simp, by go_simp, by go_simp, by go_simp, by go_simp, by go_simp⟩ hx1
  have HR : FrmAt w1 (w.heap.size + 1) 0 0 0 0 0 0 (.slice none 0 0) := FrmAt.ext (w := (w.alloc _).alloc _) ⟨by go_simp, by go_simp, by go_simp, by go_simp, by go_simp, by go_simp, by go_simp, by go_simp, by go_simp, by go_simp, by go_simp, by go_simp, by go_simp, by go_simp⟩ hx1
  have HX1 := hid_mk (show Ext w w1 from Ext.trans _ _ _ (by (repeat (first | exact Ext.refl _ | apply Ext.drew_left | apply Ext.drew | apply Ext.alloc))) hx1)
  clear hx1
  have hszB := cell_lt HB.c0
  have hszR := cell_lt HR.c0
  by_cases hz : frmChk ⟨f, t, o, li, nu, tu, l⟩ = 0
  · have HZ := hid_mk hz
    obtain ⟨⟨ht0, ht1, -⟩, -⟩ := frmChk_zero hz
    have hwr : IntKind.i64.wrap (tu + 1) = tu + 1 := wrapZ _ (by omega)
    rw [hz]
    clear hz
    have HRh := hid_mk HR
    have HBh := hid_mk HB
    obtain ⟨b0, b1, b2, b3, b4, b5, b6, p0, p1, p2, p3, p4, p5, p6⟩ := HB
    clear HR
    go_wp2_with fail
    have HXc := hid_mk (show Ext w ((((w1.setCell ⟨w.heap.size, 0, none⟩ (.int .i64 t)).setCell ⟨w.heap.size, 1, none⟩ (.int .i64 f)).setCell ⟨w.heap.size, 5, none⟩ (.int .i64 (tu + 1))).setCell ⟨w.heap.size, 6, none⟩ (.slice pa m.length pc)) from
      Ext.setD (Ext.setD (Ext.setD (Ext.setD HX1.out (Nat.le_refl _)) (Nat.le_refl _)) (Nat.le_refl _)) (Nat.le_refl _))
    have hR0 := ((((HRh.out.set (S := w.heap.size) (j := 0) (u := .int .i64 t) (by omega)).set (S := w.heap.size) (j := 1) (u := .int .i64 f) (by omega)).set (S := w.heap.size) (j := 5) (u := .int .i64 (tu + 1)) (by omega)).set (S := w.heap.size) (j := 6) (u := .slice pa m.length pc) (by omega))
    have HB0 : FrmAt ((((w1.setCell ⟨w.heap.size, 0, none⟩ (.int .i64 t)).setCell ⟨w.heap.size, 1, none⟩ (.int .i64 f)).setCell ⟨w.heap.size, 5, none⟩ (.int .i64 (tu + 1))).setCell ⟨w.heap.size, 6, none⟩ (.slice pa m.length pc)) w.heap.size t f o li nu (tu + 1) (.slice pa m.length pc) :=
      ⟨by go_simp, by go_simp, by go_simp, by go_simp, by go_simp, by go_simp, by go_simp, by go_simp, by go_simp, by go_simp, by go_simp, by go_simp, by go_simp, by go_simp⟩
    refine (fCheck_any t f o li nu (tu + 1) m _ _ (HPV.out.ext HXc.out)).mono ?_
    rintro e w2 ⟨rfl, hx2⟩
    have HX2 := hid_mk (Ext.trans _ _ _ HXc.out hx2)
    have HR2 := hR0.ext hx2
    have HB2 := HB0.ext hx2
    clear hx2 hR0 HB0 b0 b1 b2 b3 b4 b5 b6 p0 p1 p2 p3 p4 p5 p6 HXc hszB hszR hwr
    have hszB := cell_lt HB2.c0
    have hszR := cell_lt HR2.c0
    by_cases hz : frmChk ⟨t, f, o, li, nu, tu + 1, m⟩ = 0
    · have HZ2 := hid_mk hz
      obtain ⟨hm1, hm2⟩ := partsChk_zero (frmChk_zero hz).2
      rw [hz]
      clear hz
      have HR2h := hid_mk HR2
      have HM2 := hid_mk hm2
      clear HR2 hm2
      obtain ⟨b0, b1, b2, b3, b4, b5, b6, -, -, -, -, -, -, -⟩ := HB2
      go_wp2_with fail
      refine (fClone_any t f o li nu (tu + 1) m _ _ (HPV.out.ext HX2.out) hm1 HM2.out).mono ?_
      rintro e w3 ⟨sv', rfl, hs3, hx3⟩
      replace hs3 := hid_mk hs3
      have hlt2 : w.heap.size + 1 < w2.heap.size := hszR
      have HX3 := hid_mk (Ext.trans _ _ _ HX2.out hx3)
      have HR3 := HR2h.out.ext hx3
      have HS3 := hs3
      obtain ⟨a3, c3, rfl, -, -, -⟩ := hs3.out
      clear hs3
      clear hx3 b0 b1 b2 b3 b4 b5 b6
      obtain ⟨r0, r1, r2, r3, r4, r5, r6, q0, q1, q2, q3, q4, q5, q6⟩ := HR3
      have hszR3 := cell_lt r0
      go_wp2
      refine bodyPost_ret (v := .tuple #[.agg #[.int .i64 t, .int .i64 f, .int .i64 o, .int .i64 li, .int .i64 nu, .int .i64 (tu + 1), .slice a3 m.length c3], .int .i64 0]) (by unfold results; rw [Try.results57]; go_simp) rfl ⟨fun h => absurd HZ.out h, fun _ h => absurd HZ2.out h, fun _ _ => ⟨_, rfl, ?_⟩, ?_⟩
      · exact (((((((HS3.out.set hlt2).set hlt2).set hlt2).set hlt2).set hlt2).set hlt2).set hlt2).mono (HX2.out.below.size)
      · iterate 7 (with_reducible refine Ext.setD ?_ (by omega))
        exact HX3.out
    · have HZ2 := hid_mk hz
      have hzb : (frmChk ⟨t, f, o, li, nu, tu + 1, m⟩ != 0) = true := by simpa using hz
      obtain ⟨r0, r1, r2, r3, r4, r5, r6, q0, q1, q2, q3, q4, q5, q6⟩ := HR2
      clear hz HB2
      go_wp2
      refine bodyPost_ret (v := .tuple #[.agg #[.int .i64 0, .int .i64 0, .int .i64 0, .int .i64 0, .int .i64 0, .int .i64 0, .slice none 0 0], .int .i64 _]) (by unfold results; rw [Try.results57]; go_simp) rfl ⟨fun h => absurd HZ.out h, fun _ _ => rfl, fun _ h => absurd h HZ2.out, ?_⟩
      iterate 7 (with_reducible refine Ext.setD ?_ (by omega))
      exact HX2.out
  · have HZ := hid_mk hz
    have hzb : (frmChk ⟨f, t, o, li, nu, tu, l⟩ != 0) = true := by simpa using hz
    obtain ⟨r0, r1, r2, r3, r4, r5, r6, q0, q1, q2, q3, q4, q5, q6⟩ := HR
    clear hz HB
    go_wp2
    refine bodyPost_ret (v := .tuple #[.agg #[.int .i64 0, .int .i64 0, .int .i64 0, .int .i64 0, .int .i64 0, .int .i64 0, .slice none 0 0], .int .i64 _]) (by unfold results; rw [Try.results57]; go_simp) rfl ⟨fun _ => rfl, fun h => absurd h HZ.out, fun h => absurd h HZ.out, ?_⟩
    iterate 7 (with_reducible refine Ext.setD ?_ (by omega))
    exact HX1.out
end Go.Proofs.Ytgglbohcnlcagaa

/- The answer to a frame, both sides: one value. -/
import Derived.Test.YtgglbohcnlcagaaFR
import Derived.Test.YtgglbohcnlcagaaFI
import Derived.Test.YtgglbohcnlcagaaFB
namespace Go.Proofs.Ytgglbohcnlcagaa
open Go.RowKit
set_option maxHeartbeats 8000000
set_option maxRecDepth 100000
set_option linter.unusedSimpArgs false
set_option linter.unusedVariables false
theorem en_rAnswer : Enters Try.prog 58 := ⟨_, Try.func58, by kernel_rfl, rfl⟩

def frm0 : Frm := ⟨0, 0, 0, 0, 0, 0, []⟩
def swapF (F : Frm) (m : List Prt) : Frm := ⟨F.to, F.frm, F.opn, F.life, F.num, F.turn + 1, m⟩
/-- What is handed back, and the number beside it. -/
noncomputable def ansF (F : Frm) (m : List Prt) : Frm := if frmChk F ≠ 0 then frm0 else if frmChk (swapF F m) ≠ 0 then frm0 else swapF F m
noncomputable def ansC (F : Frm) (m : List Prt) : Int := if frmChk F ≠ 0 then frmChk F else frmChk (swapF F m)
theorem ansF_parts (F : Frm) (m : List Prt) : (ansF F m).parts = [] ∨ (ansF F m).parts = m := by
  unfold ansF
  split
  · left; rfl
  · split
    · left; rfl
    · right; rfl
theorem ansF_ok {F : Frm} {m : List Prt} (h : ansC F m = 0) : frmChk F = 0 ∧ ansF F m = swapF F m := by
  unfold ansC at h
  split at h
  · rename_i h1; exact absurd h h1
  · rename_i h1
    have h2 : frmChk F = 0 := by simpa using h1
    exact ⟨h2, by unfold ansF; rw [if_neg (by simpa using h2), if_neg (by simpa using h)]⟩
theorem frmChk_frm0 : frmChk frm0 ≠ 0 := by
  unfold frm0
  rw [frmChk_eq, if_pos (by unfold endsOk; simp)]
  simp
theorem ansF_twice {F : Frm} {m m' : List Prt} (h : ansC (ansF F m) m' = 0) :
    (ansF (ansF F m) m').frm = F.frm ∧ (ansF (ansF F m) m').to = F.to ∧ (ansF (ansF F m) m').opn = F.opn ∧ (ansF (ansF F m) m').life = F.life ∧ (ansF (ansF F m) m').num = F.num ∧ (ansF (ansF F m) m').turn = F.turn + 1 + 1 ∧ 0 ≤ F.turn ∧ F.turn ≤ 63 := by
  obtain ⟨h1, h2⟩ := ansF_ok h
  have h3 : ansF F m = swapF F m ∧ frmChk F = 0 := by
    unfold ansF at h1 ⊢
    split at h1
    · exact absurd h1 frmChk_frm0
    · rename_i k1
      split at h1
      · exact absurd h1 frmChk_frm0
      · rename_i k2
        rw [if_neg k1, if_neg k2]
        exact ⟨rfl, by simpa using k1⟩
  obtain ⟨⟨t1, t2, -⟩, -⟩ := frmChk_zero (f := F.frm) (t := F.to) (o := F.opn) (li := F.life) (nu := F.num) (tu := F.turn) (l := F.parts) h3.2
  rw [h2, h3.1]
  exact ⟨rfl, rfl, rfl, rfl, rfl, rfl, t1, t2⟩

theorem prtOwn_nil (B : Nat) (w : World) : PrtOwn B w (.slice none 0 0) [] := ⟨none, 0, rfl, Nat.le_refl _, by simp, Shp.zero, fun h => absurd h (by simp)⟩
theorem OwnP.sl {B : Nat} {w : World} {v : Value} {qs : List (Prt × Value)} (h : OwnP B w v qs) (hn : qs.length ≤ 4611686018427387904) (hne : ∀ q ∈ qs, q.1.ents.length ≤ 4611686018427387904) : PrtSl w v (qs.map (·.1)) := by
  obtain ⟨S, c, rfl⟩ := h.nn
  refine ⟨some ⟨S, 0, none⟩, c, by simp, ?_, by simpa using hn, fun hp => ⟨S, 0, rfl, fun i hi => ?_⟩⟩
  · rcases h.row.2 with ⟨h1, -⟩ | ⟨g, cap, cur, h1, -, -, h4, -⟩
    · cases h1
    · cases h1; simpa using h4
  · have hi' : i < qs.length := by simpa using hi
    obtain ⟨S', c', e, hcell⟩ := own_cell h.row (by omega)
    cases e
    have hg : ∀ j, j < 8 → ∀ u, (pcL qs[i])[j]? = some u → w.cell? ⟨S, i * 8 + j, none⟩ = some u := fun j hj u hu => hcell _ _ ((flat_get pcL 8 (by omega) (fun _ => rfl) qs i hi' j hj).trans hu)
    have e1 : (qs.map (·.1))[i] = qs[i].1 := by simp
    rw [e1, Nat.zero_add]
    refine ⟨qs[i].2, hg 0 (by omega) _ rfl, hg 1 (by omega) _ rfl, hg 2 (by omega) _ rfl, hg 3 (by omega) _ rfl, hg 4 (by omega) _ rfl, hg 5 (by omega) _ rfl, hg 6 (by omega) _ rfl, hg 7 (by omega) _ rfl, ?_⟩
    obtain ⟨hE1, E, ce, hE2⟩ := h.ents qs[i] (List.getElem_mem hi')
    rw [hE2]
    refine ⟨_, ce, rfl, ?_, hne _ (List.getElem_mem hi'), fun hp => ⟨E, 0, rfl, fun j hj => ?_⟩⟩
    · rcases hE1.2 with ⟨h1, -⟩ | ⟨g, cap, cur, h1, -, -, h4, -⟩
      · rw [hE2] at h1; cases h1
      · rw [hE2] at h1; cases h1; exact h4
    · obtain ⟨S9, c9, e9, hecell⟩ := own_cell hE1 hp
      rw [hE2] at e9
      cases e9
      have k : ∀ r, r < 5 → ∀ u, (ecL qs[i].1.ents[j])[r]? = some u → w.cell? ⟨E, j * 5 + r, none⟩ = some u := fun r hr u hu => hecell _ _ ((flat_get ecL 5 (by omega) (fun _ => rfl) _ j hj r hr).trans hu)
      rw [Nat.zero_add]
      exact ⟨k 0 (by omega) _ rfl, k 1 (by omega) _ rfl, k 2 (by omega) _ rfl, k 3 (by omega) _ rfl, k 4 (by omega) _ rfl⟩

theorem fAns_any (F : Frm) (m : List Prt) (sv pv : Value) (w : World) (hs : PrtSl w sv F.parts) (hp : PrtSl w pv m) :
    Calls Try.prog 57 #[.agg #[.int .i64 F.frm, .int .i64 F.to, .int .i64 F.opn, .int .i64 F.life, .int .i64 F.num, .int .i64 F.turn, sv], pv] w fun e w' =>
      ∃ sv', e = .returned (.tuple #[.agg #[.int .i64 (ansF F m).frm, .int .i64 (ansF F m).to, .int .i64 (ansF F m).opn, .int .i64 (ansF F m).life, .int .i64 (ansF F m).num, .int .i64 (ansF F m).turn, sv'], .int .i64 (ansC F m)]) ∧ PrtOwn w.heap.size w' sv' (ansF F m).parts ∧ Ext w w' := by
  obtain ⟨f, t, o, li, nu, tu, l⟩ := F
  refine (fAnswer_any f t o li nu tu l m sv pv w hs hp).mono ?_
  rintro e w' ⟨h1, h2, h3, hx⟩
  by_cases hz : frmChk ⟨f, t, o, li, nu, tu, l⟩ = 0
  · by_cases hz2 : frmChk ⟨t, f, o, li, nu, tu + 1, m⟩ = 0
    · obtain ⟨sv', rfl, hP⟩ := h3 hz hz2
      have e1 : ansF ⟨f, t, o, li, nu, tu, l⟩ m = ⟨t, f, o, li, nu, tu + 1, m⟩ := by unfold ansF swapF; rw [if_neg (by simpa using hz), if_neg (by simpa using hz2)]
      have e2 : ansC ⟨f, t, o, li, nu, tu, l⟩ m = 0 := by unfold ansC swapF; rw [if_neg (by simpa using hz)]; exact hz2
      rw [e1, e2]
      exact ⟨sv', rfl, hP, hx⟩
    · have e1 : ansF ⟨f, t, o, li, nu, tu, l⟩ m = frm0 := by unfold ansF swapF; rw [if_neg (by simpa using hz), if_pos hz2]
      have e2 : ansC ⟨f, t, o, li, nu, tu, l⟩ m = frmChk ⟨t, f, o, li, nu, tu + 1, m⟩ := by unfold ansC swapF; rw [if_neg (by simpa using hz)]
      rw [e1, e2, h2 hz hz2]
      exact ⟨_, rfl, prtOwn_nil _ _, hx⟩
  · have e1 : ansF ⟨f, t, o, li, nu, tu, l⟩ m = frm0 := by unfold ansF; rw [if_pos hz]
    have e2 : ansC ⟨f, t, o, li, nu, tu, l⟩ m = frmChk ⟨f, t, o, li, nu, tu, l⟩ := by unfold ansC; rw [if_pos hz]
    rw [e1, e2, h1 hz]
    exact ⟨_, rfl, prtOwn_nil _ _, hx⟩

theorem rAns_any (F : Frm) (m : List Prt) (sv pv : Value) (w : World) (hs : PrtSl w sv F.parts) (hp : PrtSl w pv m) (hm : m.length ≤ 536870912) (hme : ∀ p ∈ m, p.ents.length ≤ 536870912) :
    Calls Try.prog 58 #[.agg #[.int .i64 F.frm, .int .i64 F.to, .int .i64 F.opn, .int .i64 F.life, .int .i64 F.num, .int .i64 F.turn, sv], pv] w fun e w' =>
      ∃ sv', e = .returned (.tuple #[.agg #[.int .i64 (ansF F m).frm, .int .i64 (ansF F m).to, .int .i64 (ansF F m).opn, .int .i64 (ansF F m).life, .int .i64 (ansF F m).num, .int .i64 (ansF F m).turn, sv'], .int .i64 (ansC F m)]) ∧ PrtSl w' sv' (ansF F m).parts ∧ Ext w w' := by
  have HS := hid_mk hs
  have HPV := hid_mk hp
  have HME := hid_mk hme
  have HAF := hid_mk (show ∀ x y, ansF F m = x → ansC F m = y → ∀ (e : Ending) (w' : World), (∃ sv', e = .returned (.tuple #[.agg #[.int .i64 x.frm, .int .i64 x.to, .int .i64 x.opn, .int .i64 x.life, .int .i64 x.num, .int .i64 x.turn, sv'], .int .i64 y]) ∧ PrtSl w' sv' x.parts ∧ Ext w w') →
      ∃ sv', e = .returned (.tuple #[.agg #[.int .i64 (ansF F m).frm, .int .i64 (ansF F m).to, .int .i64 (ansF F m).opn, .int .i64 (ansF F m).life, .int .i64 (ansF F m).num, .int .i64 (ansF F m).turn, sv'], .int .i64 (ansC F m)]) ∧ PrtSl w' sv' (ansF F m).parts ∧ Ext w w' from fun x y h1 h2 e w' h => by subst h1 h2; exact h)
  refine Calls.mono (R := fun e w' => ∃ x y, (ansF F m = x ∧ ansC F m = y) ∧ (∃ sv', e = .returned (.tuple #[.agg #[.int .i64 x.frm, .int .i64 x.to, .int .i64 x.opn, .int .i64 x.life, .int .i64 x.num, .int .i64 x.turn, sv'], .int .i64 y]) ∧ PrtSl w' sv' x.parts ∧ Ext w w')) ?_ (fun e w' ⟨x, y, ⟨h1, h2⟩, h3⟩ => HAF.out x y h1 h2 e w' h3)
  clear HAF hme
  obtain ⟨f, t, o, li, nu, tu, l⟩ := F
  dsimp only at HS ⊢
  obtain ⟨a, c, rfl, -, -, -⟩ := hs
  obtain ⟨pa, pc, rfl, -, -, -⟩ := hp
  go_enter Try.func58, Try.ntmps58
  go_wp2_with fail
  refine (rfCheck_all f t o li nu tu l _ _ (HS.out.ext (by (repeat (first | exact Ext.refl _ | apply Ext.drew_left | apply Ext.drew | apply Ext.alloc))))).mono ?_
  rintro e w1 ⟨rfl, hx1⟩
  have HB : FrmAt w1 w.heap.size f t o li nu tu (.slice a l.length c) := FrmAt.ext (w := (w.alloc _).alloc _) ⟨by go_simp, by go_simp, by go_simp, by go_simp, by go_simp, by go_simp, by go_simp, by go_simp, by go_simp, by go_simp, by go_simp, by go_simp, by go_simp, by go_simp⟩ hx1
  have HR : FrmAt w1 (w.heap.size + 1) 0 0 0 0 0 0 (.slice none 0 0) := FrmAt.ext (w := (w.alloc _).alloc _) ⟨by go_simp, by go_simp, by go_simp, by go_simp, by go_simp, by go_simp, by go_simp, by go_simp, by go_simp, by go_simp, by go_simp, by go_simp, by go_simp, by go_simp⟩ hx1
  have HX1 := hid_mk (show Ext w w1 from Ext.trans _ _ _ (by (repeat (first | exact Ext.refl _ | apply Ext.drew_left | apply Ext.drew | apply Ext.alloc))) hx1)
  clear hx1
  have hszB := cell_lt HB.c0
  have hszR := cell_lt HR.c0
  by_cases hz : frmChk ⟨f, t, o, li, nu, tu, l⟩ = 0
  · have HZ := hid_mk hz
    obtain ⟨⟨ht0, ht1, -⟩, -⟩ := frmChk_zero hz
    have hwr : IntKind.i64.wrap (tu + 1) = tu + 1 := wrapZ _ (by omega)
    rw [hz]
    clear hz
    have HRh := hid_mk HR
    obtain ⟨b0, b1, b2, b3, b4, b5, b6, -, -, -, -, -, -, -⟩ := HB
    clear HR
    go_wp2_with fail
    refine (rfClone_any t f o li nu (tu + 1) m _ _ (HPV.out.ext HX1.out) hm HME.out).mono ?_
    rintro e w2 ⟨sv2, qs, rfl, hq, hP2, hx2⟩
    have HSL := hid_mk (show ∀ W, OwnP w1.heap.size W sv2 qs → PrtSl W sv2 m from fun W h0 => by
      have hql : qs.length = m.length := by rw [← hq, List.length_map]
      have h := h0.sl (by omega) (fun q hq' => by
        have h1 : q.1 ∈ m := by rw [← hq]; exact List.mem_map.2 ⟨q, hq', rfl⟩
        have := HME.out _ h1; omega)
      rwa [hq] at h)
    have hP2' := HSL.out _ hP2
    have HOP := hid_mk hP2
    have hR1 := hszR
    have HR2 := hid_mk (HRh.out.ext hx2)
    have HX2 := hid_mk (Ext.trans _ _ _ HX1.out hx2)
    have HP2 := hid_mk hP2'
    obtain ⟨a2, c2, rfl, -, -, -⟩ := hP2'
    clear hx2 b0 b1 b2 b3 b4 b5 b6 hszB hszR hwr hP2 hq
    have hsz2 := cell_lt HR2.out.c0
    go_wp2_with fail
    refine (rfCheck_all t f o li nu (tu + 1) m _ _ (HP2.out.ext (by (repeat (first | exact Ext.refl _ | apply Ext.drew_left | apply Ext.drew | apply Ext.alloc))))).mono ?_
    rintro e w3 ⟨rfl, hx3⟩
    have BG : FrmAt w3 w2.heap.size t f o li nu (tu + 1) (.slice a2 m.length c2) := FrmAt.ext (w := w2.alloc _) ⟨by go_simp, by go_simp, by go_simp, by go_simp, by go_simp, by go_simp, by go_simp, by go_simp, by go_simp, by go_simp, by go_simp, by go_simp, by go_simp, by go_simp⟩ hx3
    have HR3 := hid_mk (HR2.out.ext (Ext.trans _ _ _ (show Ext w2 _ by (repeat (first | exact Ext.refl _ | apply Ext.drew_left | apply Ext.drew | apply Ext.alloc))) hx3))
    have HP3 := hid_mk (HP2.out.ext (Ext.trans _ _ _ (show Ext w2 _ by (repeat (first | exact Ext.refl _ | apply Ext.drew_left | apply Ext.drew | apply Ext.alloc))) hx3))
    have HOP3 := hid_mk (HOP.out.ext (Ext.trans _ _ _ (show Ext w2 _ by (repeat (first | exact Ext.refl _ | apply Ext.drew_left | apply Ext.drew | apply Ext.alloc))) hx3))
    have HX3 := hid_mk (Ext.trans _ _ _ HX2.out (Ext.trans _ _ _ (show Ext w2 _ by (repeat (first | exact Ext.refl _ | apply Ext.drew_left | apply Ext.drew | apply Ext.alloc))) hx3))
    clear hx3
    obtain ⟨r0, r1, r2, r3, r4, r5, r6, q0, q1, q2, q3, q4, q5, q6⟩ := HR3.out
    have hszR := cell_lt r0
    by_cases hz2 : frmChk ⟨t, f, o, li, nu, tu + 1, m⟩ = 0
    · have e1 : ansF ⟨f, t, o, li, nu, tu, l⟩ m = ⟨t, f, o, li, nu, tu + 1, m⟩ := by unfold ansF swapF; rw [if_neg (by simpa using HZ.out), if_neg (by simpa using hz2)]
      have e2 : ansC ⟨f, t, o, li, nu, tu, l⟩ m = 0 := by unfold ansC swapF; rw [if_neg (by simpa using HZ.out)]; exact hz2
      have HEE := hid_mk (And.intro e1 e2)
      rw [hz2]
      clear hz2 e1 e2
      obtain ⟨b0, b1, b2, b3, b4, b5, b6, -, -, -, -, -, -, -⟩ := BG
      have hszG := cell_lt b0
      go_wp2
      refine bodyPost_ret (v := .tuple #[.agg #[.int .i64 t, .int .i64 f, .int .i64 o, .int .i64 li, .int .i64 nu, .int .i64 (tu + 1), .slice a2 m.length c2], .int .i64 0]) (by unfold results; rw [Try.results58]; go_simp) rfl ⟨⟨t, f, o, li, nu, tu + 1, m⟩, 0, HEE.out, _, rfl, ?_, ?_⟩
      · refine HSL.out _ ?_
        exact ((((((HOP3.out.set hR1).set hR1).set hR1).set hR1).set hR1).set hR1).set hR1
      · iterate 7 (with_reducible refine Ext.setD ?_ (by omega))
        exact HX3.out
    · have e1 : ansF ⟨f, t, o, li, nu, tu, l⟩ m = frm0 := by unfold ansF swapF; rw [if_neg (by simpa using HZ.out), if_pos hz2]
      have e2 : ansC ⟨f, t, o, li, nu, tu, l⟩ m = frmChk ⟨t, f, o, li, nu, tu + 1, m⟩ := by unfold ansC swapF; rw [if_neg (by simpa using HZ.out)]
      have HEE := hid_mk (And.intro e1 e2)
      have hzb : (frmChk ⟨t, f, o, li, nu, tu + 1, m⟩ != 0) = true := by simpa using hz2
      clear hz2 e1 e2 BG
      generalize frmChk ⟨t, f, o, li, nu, tu + 1, m⟩ = r at *
      go_wp2
      refine bodyPost_ret (v := .tuple #[.agg #[.int .i64 0, .int .i64 0, .int .i64 0, .int .i64 0, .int .i64 0, .int .i64 0, .slice none 0 0], .int .i64 r]) (by unfold results; rw [Try.results58]; go_simp) rfl ⟨frm0, r, HEE.out, _, rfl, (prtOwn_nil 0 _).sl, ?_⟩
      iterate 7 (with_reducible refine Ext.setD ?_ (by omega))
      exact HX3.out
  · have e1 : ansF ⟨f, t, o, li, nu, tu, l⟩ m = frm0 := by unfold ansF; rw [if_pos hz]
    have e2 : ansC ⟨f, t, o, li, nu, tu, l⟩ m = frmChk ⟨f, t, o, li, nu, tu, l⟩ := by unfold ansC; rw [if_pos hz]
    have HEE := hid_mk (And.intro e1 e2)
    have hzb : (frmChk ⟨f, t, o, li, nu, tu, l⟩ != 0) = true := by simpa using hz
    obtain ⟨r0, r1, r2, r3, r4, r5, r6, q0, q1, q2, q3, q4, q5, q6⟩ := HR
    clear hz HB e1 e2
    generalize frmChk ⟨f, t, o, li, nu, tu, l⟩ = r at *
    go_wp2
    refine bodyPost_ret (v := .tuple #[.agg #[.int .i64 0, .int .i64 0, .int .i64 0, .int .i64 0, .int .i64 0, .int .i64 0, .slice none 0 0], .int .i64 r]) (by unfold results; rw [Try.results58]; go_simp) rfl ⟨frm0, r, HEE.out, _, rfl, (prtOwn_nil 0 _).sl, ?_⟩
    iterate 7 (with_reducible refine Ext.setD ?_ (by omega))
    exact HX1.out
end Go.Proofs.Ytgglbohcnlcagaa

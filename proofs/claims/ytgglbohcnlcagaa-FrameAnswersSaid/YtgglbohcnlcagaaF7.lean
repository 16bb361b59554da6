/- What is wrong with a frame, the document's answer. -/
import Derived.Test.YtgglbohcnlcagaaF6
namespace Go.Proofs.Ytgglbohcnlcagaa
open Go.RowKit
set_option maxHeartbeats 8000000
set_option maxRecDepth 100000
set_option linter.unusedSimpArgs false
set_option linter.unusedVariables false
theorem en_rfCheck : Enters Try.prog 15 := ⟨_, Try.func15, by kernel_rfl, rfl⟩

theorem eql_rng (w : World) (a b x y : ByteArray) (c z : Bool) : (binOp .eql 33 (.agg #[.string a, .string b, .bool c]) (.agg #[.string x, .string y, .bool z])).run Try.prog w = .ok (.bool (decide (a.toList = x.toList ∧ b.toList = y.toList ∧ c = z))) w := by
  go_simp
  by_cases h1 : a.toList = x.toList <;> by_cases h2 : b.toList = y.toList <;> by_cases h3 : c = z <;> simp [*]
theorem neq_rng (w : World) (a b x y : ByteArray) (c z : Bool) : (binOp .neq 33 (.agg #[.string a, .string b, .bool c]) (.agg #[.string x, .string y, .bool z])).run Try.prog w = .ok (.bool (!decide (a.toList = x.toList ∧ b.toList = y.toList ∧ c = z))) w := by
  go_simp
  by_cases h1 : a.toList = x.toList <;> by_cases h2 : b.toList = y.toList <;> by_cases h3 : c = z <;> simp [*]
attribute [local go_sem ↓] eql_rng neq_rng

def firstOk (l : List Prt) : Prop := ∃ p, l = [p] ∧ p.kind = 1 ∧ p.lo.toList = [] ∧ p.hi.toList = [] ∧ p.op = true
theorem firstOk_one (p : Prt) : firstOk [p] ↔ p.kind = 1 ∧ p.lo.toList = [] ∧ p.hi.toList = [] ∧ p.op = true := by
  constructor
  · rintro ⟨q, e, h⟩
    cases e; exact h
  · exact fun h => ⟨p, rfl, h⟩
structure Frm where
  frm : Int
  to : Int
  opn : Int
  life : Int
  num : Int
  turn : Int
  parts : List Prt
def endsOk (f t o : Int) : Prop := (0 ≤ f ∧ f < 8) ∧ (0 ≤ t ∧ t < 8) ∧ ¬ f = t ∧ (o = f ∨ o = t)
def turnOk (f o turn : Int) : Prop := 0 ≤ turn ∧ turn ≤ 63 ∧ (turn % 2 = 0 ↔ f = o)
open Classical in
noncomputable def frmChk (f : Frm) : Int :=
  if ¬ endsOk f.frm f.to f.opn then 110 else if checkName f.opn f.life f.num ≠ 0 then 111 else if ¬ turnOk f.frm f.opn f.turn then 112
  else if partsChk f.parts ≠ 0 then partsChk f.parts else if f.turn = 0 ∧ ¬ firstOk f.parts then 114 else 0
open Classical in
theorem frmChk_eq (a b c d e t : Int) (l : List Prt) : frmChk ⟨a, b, c, d, e, t, l⟩ = if ¬ endsOk a b c then 110 else if checkName c d e ≠ 0 then 111 else if ¬ turnOk a c t then 112
  else if partsChk l ≠ 0 then partsChk l else if t = 0 ∧ ¬ firstOk l then 114 else 0 := rfl

theorem rfCheck_any (hparts : ∀ (l : List Prt) (sv : Value) (w : World), PrtSl w sv l → Calls Try.prog 68 #[sv] w fun e w' => e = .returned (.int .i64 (partsChk l)) ∧ Ext w w')
    (f t o li nu tu : Int) (l : List Prt) (sv : Value) (w : World) (hs : PrtSl w sv l) :
    Calls Try.prog 15 #[.agg #[.int .i64 f, .int .i64 t, .int .i64 o, .int .i64 li, .int .i64 nu, .int .i64 tu, sv]] w fun e w' => e = .returned (.int .i64 (frmChk ⟨f, t, o, li, nu, tu, l⟩)) ∧ Ext w w' := by
  have HPA := hid_mk hparts
  clear hparts
  have HS0 := hid_mk hs
  have HQ := hid_mk (frmChk_eq f t o li nu tu l)
  generalize frmChk ⟨f, t, o, li, nu, tu, l⟩ = res at *
  obtain ⟨a, c, rfl, hlc, -, hcells⟩ := hs
  have HC := hid_mk hcells
  clear hcells hlc
  by_cases hE : endsOk f t o
  · have HE := hid_mk hE
    obtain ⟨⟨h1, h2⟩, ⟨h3, h4⟩, h5, h6⟩ := hE
    have b1 : decide (0 ≤ f ∧ f < 8) = true := by simp; omega
    have b2 : decide (0 ≤ t ∧ t < 8) = true := by simp; omega
    have b3 : (f == t) = false := by simpa using h5
    have b4 : (t == f) = false := by simp; omega
    have b5 : (t != f) = true := by simp; omega
    have b6 : (f != t) = true := by simpa using h5
    clear h1 h2 h3 h4 h5
    have hn : checkName o li nu = 0 ∨ checkName o li nu = 111 := by
      have h := HE.out
      simp only [endsOk] at h
      simp only [checkName]
      rw [if_pos (by omega)]
      split
      · exact Or.inl rfl
      · exact Or.inr rfl
    have HN := hid_mk hn
    clear hn
    go_enter Try.func15, Try.ntmps15
    have h6' : (o == f) = true ∧ (o != f) = false ∧ (f == o) = true ∨ (o == f) = false ∧ (o != f) = true ∧ (o == t) = true ∧ (o != t) = false ∧ (f == o) = false := by
      rcases h6 with rfl | rfl
      · exact Or.inl ⟨by simp, by simp, by simp⟩
      · exact Or.inr ⟨b4, by simpa using b5, by simp, by simp, b3⟩
    clear b4 b5 b6 h6
    by_cases hT : turnOk f o tu
    · have HT := hid_mk hT
      have ht0 := hT.1
      have ht1 := hT.2.1
      have ht2 : (tu % 2 == 0) = (f == o) := by
        have h := hT.2.2
        by_cases e : f = o
        · have h2 := h.2 e
          rw [show (tu % 2 == 0) = true by simpa using h2, show (f == o) = true by simpa using e]
        · have h2 : ¬ tu % 2 = 0 := fun e' => e (h.1 e')
          rw [show (tu % 2 == 0) = false by simpa using h2, show (f == o) = false by simpa using e]
      clear hT
      have HT2 := hid_mk ht2
      clear ht2
      rcases h6' with ⟨e1, e2, e3⟩ | ⟨e1, e2, e3, e4, e5⟩
      all_goals
        have ht2 := HT2.out
        (first | rw [e3] at ht2 | rw [e5] at ht2)
        go_wp2_with (first | (go_at_call 67; refine (rend_any _ _).mono ?_; rintro e w' ⟨rfl, rfl⟩) | (go_at_call 21; fail))
        refine (rCheckName_any _ _ _ _).mono ?_
        rintro e w1 ⟨rfl, hx1⟩
        replace hx1 := Ext.trans _ _ _ (by (repeat (first | exact Ext.refl _ | apply Ext.drew_left | apply Ext.drew | apply Ext.alloc))) hx1
        have hc1 := hx1.hc; have hl1 := hx1.hl; have he1 := hx1.hle; have hn1 := hx1.hne; replace hx1 := hid_mk hx1
        by_cases hcn : checkName o li nu = 0
        · have HCN := hid_mk hcn
          rw [hcn]
          clear hcn
          go_wp2_with fail
          refine (HPA.out l _ _ (HS0.out.ext (Ext.trans _ _ _ ((Ext.refl _).alloc _) hx1.out))).mono ?_
          rintro e w2 ⟨rfl, hx2⟩
          replace hx2 := Ext.trans _ _ _ hx1.out hx2
          clear hc1 hl1 he1 hn1
          have hc2 := hx2.hc; have hl2 := hx2.hl; have he2 := hx2.hle; have hn2 := hx2.hne; replace hx2 := hid_mk hx2
          by_cases hpc : partsChk l = 0
          · have HPC := hid_mk hpc
            rw [hpc]
            clear hpc
            by_cases hz : tu = 0
            · subst hz
              first
                | (exfalso; revert ht2; decide)
                | (by_cases hlen : l.length = 1
                   · obtain ⟨b, o', rfl, hcl⟩ := HC.out (by omega)
                     obtain ⟨pv, hA⟩ := hcl 0 (by omega)
                     replace hA := hA.ext (Ext.trans _ _ _ ((Ext.refl _).alloc _) hx2.out)
                     obtain ⟨p, rfl⟩ : ∃ p, l = [p] := List.length_eq_one_iff.1 hlen
                     simp only [Nat.zero_mul, Nat.add_zero, List.getElem_cons_zero] at hA
                     obtain ⟨a0, a1, a2, a3, -, -, -, -, -⟩ := hA
                     clear hcl
                     go_wp2
                     all_goals
                       go_ret
                       refine ⟨ret_int ?_, Ext.trans _ _ _ ((Ext.refl _).alloc _) hx2.out⟩
                       rw [HQ.out, if_neg (by simpa using HE.out), if_neg (by simp [HCN.out]), if_neg (by simpa using HT.out), if_neg (by simp [HPC.out])]
                       clear hc2 hl2 he2 hn2
                       clear HS0 HPA HC HE HCN HT HPC HT2 HQ hx2
                       by_cases g : firstOk [p]
                       · first
                           | (rw [if_neg (fun h => h.2 g)]; done)
                           | (exfalso; simp at ht2; done)
                           | (exfalso; rw [firstOk_one] at g; simp_all; done)
                       · first
                           | (rw [if_pos ⟨rfl, g⟩]; done)
                           | (exfalso; simp at ht2; done)
                           | (exfalso; rw [firstOk_one] at g; simp_all; done)
                   · have hlb : ((l.length : Int) != 1) = true := by simp; omega
                     go_wp2
                     all_goals
                       go_ret
                       refine ⟨ret_int ?_, Ext.trans _ _ _ ((Ext.refl _).alloc _) hx2.out⟩
                       rw [HQ.out, if_neg (by simpa using HE.out), if_neg (by simp [HCN.out]), if_neg (by simpa using HT.out), if_neg (by simp [HPC.out])]
                       clear hc2 hl2 he2 hn2
                       first
                         | (exfalso; simp at ht2; done)
                         | (rw [if_pos ⟨rfl, by rintro ⟨p, e, -⟩; exact hlen (by rw [e]; rfl)⟩]))
            · have hzb : (tu == 0) = false := by simpa using hz
              go_wp2
              go_ret
              refine ⟨ret_int ?_, Ext.trans _ _ _ ((Ext.refl _).alloc _) hx2.out⟩
              rw [HQ.out, if_neg (by simpa using HE.out), if_neg (by simp [HCN.out]), if_neg (by simpa using HT.out), if_neg (by simp [HPC.out]), if_neg (fun h => hz h.1)]
          · go_wp2
            go_ret
            refine ⟨ret_int ?_, Ext.trans _ _ _ ((Ext.refl _).alloc _) hx2.out⟩
            rw [HQ.out, if_neg (by simpa using HE.out), if_neg (by simp [HCN.out]), if_neg (by simpa using HT.out), if_pos hpc]
        · go_wp2
          go_ret
          refine ⟨ret_int ?_, Ext.trans _ _ _ ((Ext.refl _).alloc _) hx1.out⟩
          rw [HQ.out, if_neg (by simpa using HE.out), if_pos hcn]
          exact HN.out.resolve_left hcn
    · have HT := hid_mk hT
      clear hT
      rcases h6' with ⟨e1, e2, e3⟩ | ⟨e1, e2, e3, e4, e5⟩
      all_goals
        go_wp2_with (first | (go_at_call 67; refine (rend_any _ _).mono ?_; rintro e w' ⟨rfl, rfl⟩) | (go_at_call 21; fail))
        refine (rCheckName_any _ _ _ _).mono ?_
        rintro e w1 ⟨rfl, hx1⟩
        replace hx1 := Ext.trans _ _ _ (by (repeat (first | exact Ext.refl _ | apply Ext.drew_left | apply Ext.drew | apply Ext.alloc))) hx1
        have hc1 := hx1.hc; have hl1 := hx1.hl; have he1 := hx1.hle; have hn1 := hx1.hne; replace hx1 := hid_mk hx1
        by_cases hcn : checkName o li nu = 0
        · have HCN := hid_mk hcn
          rw [hcn]
          clear hcn
          go_wp2_with fail
          all_goals first
            | (go_ret
               refine ⟨ret_int ?_, Ext.trans _ _ _ ((Ext.refl _).alloc _) hx1.out⟩
               rw [HQ.out, if_neg (by simpa using HE.out), if_neg (by simp [HCN.out]), if_pos HT.out])
            | (exfalso
               refine HT.out ?_
               clear hc1 hl1 he1 hn1
               simp_all [turnOk]; done)
            | (exfalso
               refine HT.out ?_
               clear hc1 hl1 he1 hn1
               simp_all [turnOk]; omega)
        · go_wp2
          go_ret
          refine ⟨ret_int ?_, Ext.trans _ _ _ ((Ext.refl _).alloc _) hx1.out⟩
          rw [HQ.out, if_neg (by simpa using HE.out), if_pos hcn]
          exact HN.out.resolve_left hcn
  · have HE := hid_mk hE
    clear hE
    go_enter Try.func15, Try.ntmps15
    go_wp2_with (first | (go_at_call 67; refine (rend_any _ _).mono ?_; rintro e w' ⟨rfl, rfl⟩))
    all_goals first
      | (go_ret
         refine ⟨ret_int ?_, by (repeat (first | exact Ext.refl _ | apply Ext.drew_left | apply Ext.drew | apply Ext.alloc))⟩
         rw [HQ.out, if_pos HE.out])
      | (exfalso
         refine HE.out ?_
         simp only [endsOk]
         simp_all; done)
end Go.Proofs.Ytgglbohcnlcagaa

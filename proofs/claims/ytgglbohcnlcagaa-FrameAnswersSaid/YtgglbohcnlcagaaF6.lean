/- What is wrong with the parts of a frame, the document's answer. -/
import Derived.Test.YtgglbohcnlcagaaF4
namespace Go.Proofs.Ytgglbohcnlcagaa
open Go.RowKit
set_option maxHeartbeats 8000000
set_option maxRecDepth 100000
set_option linter.unusedSimpArgs false
set_option linter.unusedVariables false
theorem en_rCheckParts : Enters Try.prog 68 := ⟨_, Try.func68, by kernel_rfl, rfl⟩

def entsSum (l : List Prt) : Nat := (l.map fun p => p.ents.length).sum
theorem entsSum_take_succ (l : List Prt) (k : Nat) (h : k < l.length) : entsSum (l.take (k + 1)) = entsSum (l.take k) + l[k].ents.length := by
  unfold entsSum
  rw [List.take_succ_eq_append_getElem h, List.map_append, List.sum_append]; simp
theorem entsSum_take_le (l : List Prt) (k : Nat) : entsSum (l.take k) ≤ entsSum l := by
  conv => rhs; rw [← List.take_append_drop k l]
  unfold entsSum
  rw [List.map_append, List.sum_append]; omega
def partsGo : Option Prt → List Prt → Int
  | _, [] => 0
  | prev, p :: r => if partChk prev p ≠ 0 then partChk prev p else partsGo (some p) r
theorem partsGo_drop (l : List Prt) (k : Nat) (h : k < l.length) (q : Option Prt) : partsGo q (l.drop k) = if partChk q l[k] ≠ 0 then partChk q l[k] else partsGo (some l[k]) (l.drop (k + 1)) := by
  rw [List.drop_eq_getElem_cons h]; rfl
def partsChk (l : List Prt) : Int := if 768 < l.length then 113 else if 256 < entsSum l then 113 else partsGo none l
theorem partsChk_eq (l : List Prt) : partsChk l = if 768 < l.length then 113 else if 256 < entsSum l then 113 else partsGo none l := rfl

theorem rCheckParts_any (hpart : ∀ (l : List Prt) (sv : Value) (k : Nat) (hk : k < l.length) (w : World), PrtSl w sv l →
      Calls Try.prog 108 #[sv, .int .i64 k] w fun e w' => e = .returned (.int .i64 (partChk (prevPrt l k) l[k])) ∧ Ext w w')
    (l : List Prt) (sv : Value) (w : World) (hs : PrtSl w sv l) :
    Calls Try.prog 68 #[sv] w fun e w' => e = .returned (.int .i64 (partsChk l)) ∧ Ext w w' := by
  have HPA := hid_mk hpart
  clear hpart
  have HS0 := hid_mk hs
  obtain ⟨a, c, rfl, hlc, hc63, hcells⟩ := hs
  have HC := hid_mk hcells
  clear hcells
  have HQ := hid_mk (partsChk_eq l)
  generalize partsChk l = res at *
  have hl63 : l.length ≤ 4611686018427387904 := by omega
  go_enter Try.func68, Try.ntmps68
  go_wp2
  · go_ret
    exact ⟨ret_int (by rw [HQ.out, if_pos (by omega)]), Ext.refl _⟩
  · have hle : l.length ≤ 768 := by omega
    go_loop [3, 4] (fun n i => ∃ k : Nat, k ≤ l.length ∧ i = .int .i64 k ∧ n = .int .i64 (entsSum (l.take k)) ∧ entsSum (l.take k) ≤ 256) (fun _ i => l.length - (intOf i).toNat)
    case atStart => exact ⟨0, Nat.zero_le _, rfl, by simp [entsSum], by simp [entsSum]⟩
    case round =>
      obtain ⟨k, hk, rfl, rfl, h256⟩ := hrel
      by_cases hlt : k < l.length
      · obtain ⟨b, o, rfl, hcl⟩ := HC.out (by omega)
        obtain ⟨pv, hA⟩ := hcl k hlt
        clear hcl
        have a7 := hA.c7
        obtain ⟨ea, ec, rfl, -, -, -⟩ := hA.es
        clear hA
        have HN := hid_mk (entsSum_take_succ l k hlt)
        have HM := hid_mk (entsSum_take_le l (k + 1))
        generalize entsSum (l.take k) = n at *
        generalize l[k].ents.length = m at *
        by_cases hm : m ≤ 256 - n
        · have hm1 : ¬ (256 - (n : Int) < (m : Int)) := by omega
          go_wp2
          go_round
          case rel => exact ⟨k + 1, by omega, by go_num, by rw [HN.out]; go_num, by rw [HN.out]; omega⟩
          case measure => simp [intOf]; omega
        · have hm1 : 256 - (n : Int) < (m : Int) := by omega
          go_wp2
          go_ret
          have h1 := HN.out
          have h2 := HM.out
          exact ⟨ret_int (by rw [HQ.out, if_neg (by omega), if_pos (by omega)]), Ext.refl _⟩
      · have e : k = l.length := by omega
        subst e
        rw [List.take_length] at h256
        rw [List.take_length]
        have HG := hid_mk (show res = partsGo none l by rw [HQ.out, if_neg (by omega), if_neg (by omega)])
        clear HQ h256
        generalize entsSum l = tot at *
        go_wp2
        go_loopw [5] (fun i wr => ∃ k : Nat, k ≤ l.length ∧ i = .int .i64 k ∧ partsGo none l = partsGo (prevPrt l k) (l.drop k) ∧ Ext w wr) (fun i _ => l.length - (intOf i).toNat)
        case atStart => exact ⟨0, Nat.zero_le _, rfl, by simp [prevPrt], Ext.refl _⟩
        case round =>
          obtain ⟨k, hk, rfl, hf, hx⟩ := hrel
          have HF := hid_mk hf
          clear hf
          by_cases hlt : k < l.length
          · have HD := hid_mk (partsGo_drop l k hlt (prevPrt l k))
            have HX := hid_mk hx
            clear hx
            go_wp2_with fail
            refine (HPA.out l _ k hlt _ (HS0.out.ext HX.out)).mono ?_
            rintro e w1 ⟨rfl, hx1⟩
            have HX1 := hid_mk (Ext.trans _ _ _ HX.out hx1)
            clear hx1
            by_cases hz : partChk (prevPrt l k) l[k] = 0
            · have HZ := hid_mk hz
              rw [hz]
              clear hz
              go_wp2
              go_roundw
              case rel => exact ⟨k + 1, by omega, by go_num, by rw [HF.out, HD.out, if_neg (by simp [HZ.out])]; simp [prevPrt, hlt], HX1.out⟩
              case measure => simp [intOf]; omega
            · go_wp2
              go_ret
              exact ⟨ret_int (by rw [HG.out, HF.out, HD.out, if_pos hz]), HX1.out⟩
          · have e : k = l.length := by omega
            subst e
            go_wp2
            go_ret
            exact ⟨ret_int (by rw [HG.out, HF.out, List.drop_length]; rfl), hx⟩
end Go.Proofs.Ytgglbohcnlcagaa

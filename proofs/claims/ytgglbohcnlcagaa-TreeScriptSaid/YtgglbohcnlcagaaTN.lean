/- The examples of the document hold. -/
import Derived.Test.YtgglbohcnlcagaaTI3
import Derived.Test.YtgglbohcnlcagaaTH3
import Derived.Test.YtgglbohcnlcagaaTJ
namespace Go.Proofs.Ytgglbohcnlcagaa
open Go.RowKit
set_option maxHeartbeats 2000000
set_option maxRecDepth 100000
set_option linter.unusedSimpArgs false
set_option linter.unusedVariables false
theorem en_Tshown : Enters Try.prog 33 := ⟨_, Try.func33, by kernel_rfl, rfl⟩

abbrev kA : ByteArray := ⟨#[97]⟩
abbrev kB : ByteArray := ⟨#[98]⟩
abbrev kC : ByteArray := ⟨#[99]⟩
abbrev kBB : ByteArray := ⟨#[98, 98]⟩
abbrev uA : ByteArray := ⟨#[65]⟩
abbrev uB : ByteArray := ⟨#[66]⟩
abbrev uC : ByteArray := ⟨#[67]⟩
abbrev uX : ByteArray := ⟨#[120]⟩
theorem sh_ab : Op.bytesLess kA.toList kB.toList = true := by simp [ByteArray.toList_eq, Op.bytesLess]
theorem sh_ba : Op.bytesLess kB.toList kA.toList = false := by simp [ByteArray.toList_eq, Op.bytesLess]
theorem sh_bc : Op.bytesLess kB.toList kC.toList = true := by simp [ByteArray.toList_eq, Op.bytesLess]
theorem sh_cb : Op.bytesLess kC.toList kB.toList = false := by simp [ByteArray.toList_eq, Op.bytesLess]
theorem sh_bb : Op.bytesLess kB.toList kB.toList = false := bl_irrefl _
theorem sh_b2 : Op.bytesLess kB.toList kBB.toList = true := by simp [ByteArray.toList_eq, Op.bytesLess]
theorem sh_c2 : Op.bytesLess kC.toList kBB.toList = false := by simp [ByteArray.toList_eq, Op.bytesLess]
abbrev sT1 : T3 := .node .nil kB 1 uB .nil
abbrev sT2 : T3 := .node (.node .nil kA 2 uA .nil) kB 1 uB .nil
abbrev sT3 : T3 := .node (.node .nil kA 2 uA .nil) kB 1 uB (.node .nil kC 3 uC .nil)
abbrev sT4 : T3 := .node (.node .nil kA 2 uA .nil) kB 4 uX (.node .nil kC 3 uC .nil)
theorem sh1 : Tr.put kB (1 : Int) uB (.nil : T3) = sT1 := rfl
theorem sh2 : Tr.put kA (2 : Int) uA sT1 = sT2 := by simp [Tr.put, Tr.get, Tr.rank, Tr.size, Tr.bal, Tr.high, Op.bytesLess, ByteArray.toList_eq]
theorem sh3 : Tr.put kC (3 : Int) uC sT2 = sT3 := by simp [Tr.put, Tr.get, Tr.rank, Tr.size, Tr.bal, Tr.high, Op.bytesLess, ByteArray.toList_eq]
theorem sh4 : Tr.put kB (4 : Int) uX sT3 = sT4 := by simp [Tr.put, Tr.get, Tr.rank, Tr.size, Tr.bal, Tr.high, Op.bytesLess, ByteArray.toList_eq]
theorem sg1 : Tr.get kB (.nil : T3) = none := rfl
theorem sg4 : Tr.get kB sT3 = some 1 := by simp [Tr.put, Tr.get, Tr.rank, Tr.size, Tr.bal, Tr.high, Op.bytesLess, ByteArray.toList_eq]
theorem sat : Tr.at_ 1 sT4 = some (kB, 4) := by simp [Tr.at_, Tr.size]
theorem srk : Tr.rank kBB sT4 = 2 := by simp [Tr.put, Tr.get, Tr.rank, Tr.size, Tr.bal, Tr.high, Op.bytesLess, ByteArray.toList_eq]
abbrev cat (a b : ByteArray) : ByteArray := a ++ b
theorem sf1 : foldP cat ⟨#[]⟩ (sT4.pieces cat ⟨#[]⟩ (max (-5) 0) (min 99 sT4.size)) = ⟨#[65, 120, 67]⟩ := by decide
theorem sf2 : foldP cat ⟨#[]⟩ (sT4.pieces cat ⟨#[]⟩ (max 1 0) (min 3 sT4.size)) = ⟨#[120, 67]⟩ := by decide
theorem sf3 : foldP cat ⟨#[]⟩ (sT4.pieces cat ⟨#[]⟩ (max 2 0) (min 1 sT4.size)) = ⟨#[]⟩ := by decide
theorem shown_any (w0 : World) : Calls Try.prog 33 #[] w0 fun e w' => e = .returned (.bool true) ∧ Ext w0 w' := by
  go_enter Try.func33, Try.ntmps33
  go_wp2_with fail
  refine (new3_any (⟨#[]⟩ : ByteArray) 83 #[] w0).mono ?_
  rintro e w1 ⟨tb, rfl, hb, hT, hX⟩
  have HB := hid_mk hb
  have HX := hid_mk hX
  have HT := hid_mk hT
  have H : Hid (IsTree3 none cat ⟨#[]⟩ w1 (.pointer none) (.nil : T3)) := hid_mk rfl
  clear hb hX hT
  go_wp2_with fail
  refine (tput3_any jokShown (n := 0) kB (1 : Int) uB HT.out (by simp) H.out trivial (by simp [Tr.size]) (by simp [Tr.wt, ByteArray.size])).mono ?_
  rintro e w2 ⟨rfl, pv2, j2, hT, h, hX, -, -⟩
  rw [sh1] at h
  replace HX := hid_mk (Xl.ext HX.out hX (by simpa using HB.out))
  replace HT := hid_mk hT
  replace H := hid_mk h
  clear hT h hX
  rw [sg1]
  go_wp2_with fail
  refine (tput3_any jokShown (n := 0) kA (2 : Int) uA HT.out (by simp) H.out trivial (by simp [Tr.size]) (by simp [Tr.wt, ByteArray.size])).mono ?_
  rintro e w3 ⟨rfl, pv3, j3, hT, h, hX, -, -⟩
  rw [sh2] at h
  replace HX := hid_mk (Xl.ext HX.out hX (by simpa using HB.out))
  replace HT := hid_mk hT
  replace H := hid_mk h
  clear hT h hX
  go_wp2_with fail
  refine (tput3_any jokShown (n := 0) kC (3 : Int) uC HT.out (by simp) H.out trivial (by simp [Tr.size]) (by simp [Tr.wt, ByteArray.size])).mono ?_
  rintro e w4 ⟨rfl, pv4, j4, hT, h, hX, -, -⟩
  rw [sh3] at h
  replace HX := hid_mk (Xl.ext HX.out hX (by simpa using HB.out))
  replace HT := hid_mk hT
  replace H := hid_mk h
  clear hT h hX
  go_wp2_with fail
  refine (tput3_any jokShown (n := 0) kB (4 : Int) uX HT.out (by simp) H.out trivial (by simp [Tr.size]) (by simp [Tr.wt, ByteArray.size])).mono ?_
  rintro e w5 ⟨rfl, pv5, j5, hT, h, hX, -, -⟩
  rw [sh4] at h
  replace HX := hid_mk (Xl.ext HX.out hX (by simpa using HB.out))
  replace HT := hid_mk hT
  replace H := hid_mk h
  clear hT h hX
  rw [sg4]
  go_wp2_with fail
  refine (at3_any 1 (by omega) HT.out.at_ H.out (by simp [Tr.size])).mono ?_
  rintro e w6 ⟨rfl, hX⟩
  rw [sat]
  simp only [atV3, Option.map_some, Option.getD_some, Option.isSome_some]
  replace HX := hid_mk (Ext.trans _ _ _ HX.out hX)
  replace HT := hid_mk (HT.out.xt (Xt.of hX : Xt none _ _) (by simp))
  replace H := hid_mk (H.out.xt (Xt.of hX))
  clear hX
  go_wp2_with fail
  refine (len3_any HT.out.at_ H.out).mono ?_
  rintro e w7 ⟨rfl, rfl⟩
  have e3 : ((Tr.size sT4 : Nat) : Int) = 3 := rfl
  rw [e3]
  go_wp2_with fail
  refine (fold3_any jokShown (n := 0) (-5) 99 (by omega) (by omega) HT.out.at_ (by simp) H.out trivial (by simp [Tr.size]) (by simp [Tr.wt, ByteArray.size])).mono ?_
  rintro e w8 ⟨rfl, hX, -⟩
  replace hX := hX.ext
  rw [sf1]
  replace HX := hid_mk (Ext.trans _ _ _ HX.out hX)
  replace HT := hid_mk (HT.out.xt (Xt.of hX : Xt none _ _) (by simp))
  replace H := hid_mk (H.out.xt (Xt.of hX))
  clear hX
  go_wp2_with fail
  refine (fold3_any jokShown (n := 0) 1 3 (by omega) (by omega) HT.out.at_ (by simp) H.out trivial (by simp [Tr.size]) (by simp [Tr.wt, ByteArray.size])).mono ?_
  rintro e w9 ⟨rfl, hX, -⟩
  replace hX := hX.ext
  rw [sf2]
  replace HX := hid_mk (Ext.trans _ _ _ HX.out hX)
  replace HT := hid_mk (HT.out.xt (Xt.of hX : Xt none _ _) (by simp))
  replace H := hid_mk (H.out.xt (Xt.of hX))
  clear hX
  go_wp2_with fail
  refine (fold3_any jokShown (n := 0) 2 1 (by omega) (by omega) HT.out.at_ (by simp) H.out trivial (by simp [Tr.size]) (by simp [Tr.wt, ByteArray.size])).mono ?_
  rintro e w10 ⟨rfl, hX, -⟩
  replace hX := hX.ext
  rw [sf3]
  replace HX := hid_mk (Ext.trans _ _ _ HX.out hX)
  replace HT := hid_mk (HT.out.xt (Xt.of hX : Xt none _ _) (by simp))
  replace H := hid_mk (H.out.xt (Xt.of hX))
  clear hX
  go_wp2_with fail
  refine (rank3_any kBB HT.out.at_ H.out (by simp [Tr.size])).mono ?_
  rintro e w11 ⟨rfl, rfl⟩
  rw [srk]
  go_wp2
  go_ret
  exact ⟨rfl, HX.out⟩
end Go.Proofs.Ytgglbohcnlcagaa

/- Merged from: Chk Chk3. -/
import Derived.Test.YtmngghglcgmkeaaGreatDoorRule
import Derived.Deep.RegionHeld3
import Derived.Laws.EntriesVeiled
import Derived.Deep.RegionWith
import Derived.Deep.Cut
import Derived.Deep.CutRange
/- What is wrong with a fact: the program's Check. -/
namespace Go.Proofs.YtmngghglcgmkeaaGreatDoor
open Go.RowKit Go.Sort

theorem enter_of {n : Nat} (args : Array Value) (w : World) (h : (callFunc n args).run Tryz.prog w = .ok (.enter n args) w) : (callFunc n args).run Tryz.prog w = .ok (.enter n args) w := h
/-- A function that tests a code. -/
structure CodeOk (k : Int) (n : Nat) : Prop where
  enter : ∀ args w, (callFunc n args).run Tryz.prog w = .ok (.enter n args) w
  calls : ∀ s W, s.size ≤ 1000000 → Calls Tryz.prog n #[.string s] W fun e w' => e = .returned (.bool (codeB k (ls s))) ∧ Below W.heap.size W w'
/-- A function that tests a text. -/
structure TextOk (k : Int) (n : Nat) : Prop where
  enter : ∀ args w, (callFunc n args).run Tryz.prog w = .ok (.enter n args) w
  calls : ∀ f W, Fit f → f.ki = k → Tb W → Calls Tryz.prog n #[valF f] W fun e w' => e = .returned (.bool (textB k f.nu (ls f.tx))) ∧ Below W.heap.size W w'
theorem same_below {P : Program} {n : Nat} {args : Array Value} {W : World} {v : Value} (h : Calls P n args W fun e w' => e = .returned v ∧ W = w') : Calls P n args W fun e w' => e = .returned v ∧ Below W.heap.size W w' := h.mono fun _ _ ⟨he, hw⟩ => ⟨he, by subst hw; exact Below.refl _ _⟩
theorem grows_below {P : Program} {n : Nat} {args : Array Value} {W : World} {v : Value} (h : Calls P n args W fun e w' => e = .returned v ∧ Grows W w') : Calls P n args W fun e w' => e = .returned v ∧ Below W.heap.size W w' := h.mono fun _ _ ⟨he, hw⟩ => ⟨he, hw.below⟩
theorem code_1 : CodeOk 1 83 := ⟨fun _ _ => by kernel_rfl, fun s W _ => same_below (fc_empty s W)⟩
theorem text_1 : TextOk 1 84 := ⟨fun _ _ => by kernel_rfl, fun f W _ _ _ => fc_silent f W⟩
theorem code_2 : CodeOk 2 83 := ⟨fun _ _ => by kernel_rfl, fun s W _ => same_below (fc_empty s W)⟩
theorem text_2 : TextOk 2 84 := ⟨fun _ _ => by kernel_rfl, fun f W _ _ _ => fc_silent f W⟩
theorem code_3 : CodeOk 3 83 := ⟨fun _ _ => by kernel_rfl, fun s W _ => same_below (fc_empty s W)⟩
theorem text_3 : TextOk 3 84 := ⟨fun _ _ => by kernel_rfl, fun f W _ _ _ => fc_silent f W⟩
theorem code_4 : CodeOk 4 83 := ⟨fun _ _ => by kernel_rfl, fun s W _ => same_below (fc_empty s W)⟩
theorem text_4 : TextOk 4 85 := ⟨fun _ _ => by kernel_rfl, fun f W hf _ _ => fc_weekly f W hf⟩
theorem code_5 : CodeOk 5 83 := ⟨fun _ _ => by kernel_rfl, fun s W _ => same_below (fc_empty s W)⟩
theorem text_5 : TextOk 5 86 := ⟨fun _ _ => by kernel_rfl, fun f W hf _ hT => fc_cost f W hf hT⟩
theorem code_6 : CodeOk 6 77 := ⟨fun _ _ => by kernel_rfl, fun s W h => same_below (fc_either s W h)⟩
theorem text_6 : TextOk 6 88 := ⟨fun _ _ => by kernel_rfl, fun f W hf _ hT => fc_night f W hf hT⟩
theorem code_7 : CodeOk 7 89 := ⟨fun _ _ => by kernel_rfl, fun s W _ => grows_below (fc_absence s W)⟩
theorem text_7 : TextOk 7 84 := ⟨fun _ _ => by kernel_rfl, fun f W _ _ _ => fc_silent f W⟩
theorem code_8 : CodeOk 8 78 := ⟨fun _ _ => by kernel_rfl, fun s W h => same_below (fc_isName s W h)⟩
theorem text_8 : TextOk 8 84 := ⟨fun _ _ => by kernel_rfl, fun f W _ _ _ => fc_silent f W⟩
theorem code_9 : CodeOk 9 78 := ⟨fun _ _ => by kernel_rfl, fun s W h => same_below (fc_isName s W h)⟩
theorem text_9 : TextOk 9 84 := ⟨fun _ _ => by kernel_rfl, fun f W _ _ _ => fc_silent f W⟩
theorem code_10 : CodeOk 10 78 := ⟨fun _ _ => by kernel_rfl, fun s W h => same_below (fc_isName s W h)⟩
theorem text_10 : TextOk 10 84 := ⟨fun _ _ => by kernel_rfl, fun f W _ _ _ => fc_silent f W⟩
theorem code_11 : CodeOk 11 83 := ⟨fun _ _ => by kernel_rfl, fun s W _ => same_below (fc_empty s W)⟩
theorem text_11 : TextOk 11 79 := ⟨fun _ _ => by kernel_rfl, fun f W hf _ hT => fc_named f W hf hT⟩
theorem code_12 : CodeOk 12 78 := ⟨fun _ _ => by kernel_rfl, fun s W h => same_below (fc_isName s W h)⟩
theorem text_12 : TextOk 12 90 := ⟨fun _ _ => by kernel_rfl, fun f W hf _ hT => fc_attach f W hf hT⟩
theorem code_13 : CodeOk 13 83 := ⟨fun _ _ => by kernel_rfl, fun s W _ => same_below (fc_empty s W)⟩
theorem text_13 : TextOk 13 79 := ⟨fun _ _ => by kernel_rfl, fun f W hf _ hT => fc_named f W hf hT⟩
theorem code_14 : CodeOk 14 78 := ⟨fun _ _ => by kernel_rfl, fun s W h => same_below (fc_isName s W h)⟩
theorem text_14 : TextOk 14 80 := ⟨fun _ _ => by kernel_rfl, fun f W hf _ hT => fc_free f W hf hT⟩
theorem code_15 : CodeOk 15 78 := ⟨fun _ _ => by kernel_rfl, fun s W h => same_below (fc_isName s W h)⟩
theorem text_15 : TextOk 15 82 := ⟨fun _ _ => by kernel_rfl, fun f W hf _ _ => fc_told f W hf⟩
theorem code_16 : CodeOk 16 83 := ⟨fun _ _ => by kernel_rfl, fun s W _ => same_below (fc_empty s W)⟩
theorem text_16 : TextOk 16 84 := ⟨fun _ _ => by kernel_rfl, fun f W _ _ _ => fc_silent f W⟩
theorem code_17 : CodeOk 17 83 := ⟨fun _ _ => by kernel_rfl, fun s W _ => same_below (fc_empty s W)⟩
theorem text_17 : TextOk 17 84 := ⟨fun _ _ => by kernel_rfl, fun f W _ _ _ => fc_silent f W⟩
theorem code_18 : CodeOk 18 83 := ⟨fun _ _ => by kernel_rfl, fun s W _ => same_below (fc_empty s W)⟩
theorem text_18 : TextOk 18 84 := ⟨fun _ _ => by kernel_rfl, fun f W _ _ _ => fc_silent f W⟩
theorem rule_parts (k : Int) (h1 : 1 ≤ k) (h2 : k ≤ 18) : ∃ (nm : ByteArray) (cf tf : Nat), ruleV k = #[.string nm, .bool (firmB k), .bool (daysB k), .func (.func cf) #[] #[], .int .i64 (lowN k), .int .i64 (highN k), .func (.func tf) #[] #[]] ∧ CodeOk k cf ∧ TextOk k tf := by
  have : k = 1 ∨ k = 2 ∨ k = 3 ∨ k = 4 ∨ k = 5 ∨ k = 6 ∨ k = 7 ∨ k = 8 ∨ k = 9 ∨ k = 10 ∨ k = 11 ∨ k = 12 ∨ k = 13 ∨ k = 14 ∨ k = 15 ∨ k = 16 ∨ k = 17 ∨ k = 18 := by omega
  rcases this with rfl | rfl | rfl | rfl | rfl | rfl | rfl | rfl | rfl | rfl | rfl | rfl | rfl | rfl | rfl | rfl | rfl | rfl
  · exact ⟨_, _, _, rfl, code_1, text_1⟩
  · exact ⟨_, _, _, rfl, code_2, text_2⟩
  · exact ⟨_, _, _, rfl, code_3, text_3⟩
  · exact ⟨_, _, _, rfl, code_4, text_4⟩
  · exact ⟨_, _, _, rfl, code_5, text_5⟩
  · exact ⟨_, _, _, rfl, code_6, text_6⟩
  · exact ⟨_, _, _, rfl, code_7, text_7⟩
  · exact ⟨_, _, _, rfl, code_8, text_8⟩
  · exact ⟨_, _, _, rfl, code_9, text_9⟩
  · exact ⟨_, _, _, rfl, code_10, text_10⟩
  · exact ⟨_, _, _, rfl, code_11, text_11⟩
  · exact ⟨_, _, _, rfl, code_12, text_12⟩
  · exact ⟨_, _, _, rfl, code_13, text_13⟩
  · exact ⟨_, _, _, rfl, code_14, text_14⟩
  · exact ⟨_, _, _, rfl, code_15, text_15⟩
  · exact ⟨_, _, _, rfl, code_16, text_16⟩
  · exact ⟨_, _, _, rfl, code_17, text_17⟩
  · exact ⟨_, _, _, rfl, code_18, text_18⟩
theorem lowhigh (k : Int) : -1125899906842624 ≤ lowN k ∧ lowN k ≤ 1 ∧ 0 ≤ highN k ∧ highN k ≤ 1125899906842624 := by
  unfold lowN highN
  refine ⟨?_, ?_, ?_, ?_⟩ <;> (repeat' split) <;> omega

set_option maxHeartbeats 2000000 in
theorem fc_days (f : Fa) (nm : ByteArray) (fi : Bool) (cf tf : Nat) (lo hi : Int) (w : World) :
    Calls Tryz.prog 54 #[valF f, .agg #[.string nm, .bool fi, .bool (daysB f.ki), .func (.func cf) #[] #[], .int .i64 lo, .int .i64 hi, .func (.func tf) #[] #[]]] w fun e w' => e = .returned (.int .i64 (daysE f)) ∧ Below w.heap.size w w' := by
  unfold valF
  have HG : Hid (∀ o p, Below w.heap.size w ((w.alloc o).alloc p)) := Lib.hid (fun o p => bTrans (bAlloc w o) (bAlloc _ p))
  obtain ⟨db, hdb⟩ : ∃ b, daysB f.ki = b := ⟨_, rfl⟩
  have HD : Hid (daysE f = if (f.ki = 18 ∧ f.fr ≠ 0) ∨ f.fr < -25567 ∨ 84005 < f.fr then 15 else if f.to ≠ 0 ∧ (db = false ∨ f.to ≤ f.fr) then 24 else if 84006 < f.to then 15 else 0) := Lib.hid (by unfold daysE; rw [hdb])
  rw [hdb]
  clear hdb
  by_cases hk : f.ki = 18
  · have bk : (f.ki == 18) = true := beq_iff_eq.2 hk
    have HK := Lib.hid hk
    clear hk
    by_cases hfr : f.fr = 0
    · have bf : (f.fr != 0) = false := by rw [hfr]; rfl
      have HF0 := Lib.hid hfr
      have hlo : ¬ f.fr < -25567 := by omega
      have hhi : ¬ 84005 < f.fr := by omega
      clear hfr
      have HN1 : Hid (¬ ((f.ki = 18 ∧ f.fr ≠ 0) ∨ f.fr < -25567 ∨ 84005 < f.fr)) := Lib.hid (fun h => h.elim (fun h => h.2 HF0.out) (fun h => h.elim hlo hhi))
      by_cases ht : f.to = 0
      · have bt : (f.to != 0) = false := by rw [ht]; rfl
        have HT0 := Lib.hid ht
        have hg : ¬ 84006 < f.to := by omega
        clear ht
        have L : Hid (daysE f = 0) := Lib.hid (by rw [HD.out]; rw [if_neg HN1.out, if_neg (fun h => h.1 HT0.out), if_neg (by omega)])
        go_enter Tryz.func54, Tryz.ntmps54
        go_wp2
        go_ret
        exact ⟨ret_i L.out.symm, HG.out _ _⟩
      have bt : (f.to != 0) = true := bne_iff_ne.2 ht
      have HT0 := Lib.hid ht
      clear ht
      cases db with
      | false =>
        have L : Hid (daysE f = 24) := Lib.hid (by rw [HD.out]; rw [if_neg HN1.out, if_pos ⟨HT0.out, .inl rfl⟩])
        go_enter Tryz.func54, Tryz.ntmps54
        go_wp2
        go_ret
        exact ⟨ret_i L.out.symm, HG.out _ _⟩
      | true =>
        by_cases hle : f.to ≤ f.fr
        · skip
          have L : Hid (daysE f = 24) := Lib.hid (by rw [HD.out]; rw [if_neg HN1.out, if_pos ⟨HT0.out, .inr hle⟩])
          go_enter Tryz.func54, Tryz.ntmps54
          go_wp2
          go_ret
          exact ⟨ret_i L.out.symm, HG.out _ _⟩
        by_cases hg : 84006 < f.to
        · skip
          have L : Hid (daysE f = 15) := Lib.hid (by rw [HD.out]; rw [if_neg HN1.out, if_neg (fun h => h.2.elim (fun h => by cases h) hle), if_pos hg])
          go_enter Tryz.func54, Tryz.ntmps54
          go_wp2
          go_ret
          exact ⟨ret_i L.out.symm, HG.out _ _⟩
        have L : Hid (daysE f = 0) := Lib.hid (by rw [HD.out]; rw [if_neg HN1.out, if_neg (fun h => h.2.elim (fun h => by cases h) hle), if_neg hg])
        go_enter Tryz.func54, Tryz.ntmps54
        go_wp2
        go_ret
        exact ⟨ret_i L.out.symm, HG.out _ _⟩
    · have bf : (f.fr != 0) = true := bne_iff_ne.2 hfr
      have HF0 := Lib.hid hfr
      clear hfr
      have L : Hid (daysE f = 15) := Lib.hid (by rw [HD.out]; rw [if_pos (.inl ⟨HK.out, HF0.out⟩)])
      go_enter Tryz.func54, Tryz.ntmps54
      go_wp2
      go_ret
      exact ⟨ret_i L.out.symm, HG.out _ _⟩
  · have bk : (f.ki == 18) = false := beq_eq_false_iff_ne.2 hk
    have HK := Lib.hid hk
    clear hk
    by_cases hlo : f.fr < -25567
    · skip
      have L : Hid (daysE f = 15) := Lib.hid (by rw [HD.out]; rw [if_pos (.inr (.inl hlo))])
      go_enter Tryz.func54, Tryz.ntmps54
      go_wp2
      go_ret
      exact ⟨ret_i L.out.symm, HG.out _ _⟩
    by_cases hhi : 84005 < f.fr
    · skip
      have L : Hid (daysE f = 15) := Lib.hid (by rw [HD.out]; rw [if_pos (.inr (.inr hhi))])
      go_enter Tryz.func54, Tryz.ntmps54
      go_wp2
      go_ret
      exact ⟨ret_i L.out.symm, HG.out _ _⟩
    have HN1 : Hid (¬ ((f.ki = 18 ∧ f.fr ≠ 0) ∨ f.fr < -25567 ∨ 84005 < f.fr)) := Lib.hid (fun h => h.elim (fun h => HK.out h.1) (fun h => h.elim hlo hhi))
    by_cases ht : f.to = 0
    · have bt : (f.to != 0) = false := by rw [ht]; rfl
      have HT0 := Lib.hid ht
      have hg : ¬ 84006 < f.to := by omega
      clear ht
      have L : Hid (daysE f = 0) := Lib.hid (by rw [HD.out]; rw [if_neg HN1.out, if_neg (fun h => h.1 HT0.out), if_neg (by omega)])
      go_enter Tryz.func54, Tryz.ntmps54
      go_wp2
      go_ret
      exact ⟨ret_i L.out.symm, HG.out _ _⟩
    have bt : (f.to != 0) = true := bne_iff_ne.2 ht
    have HT0 := Lib.hid ht
    clear ht
    cases db with
    | false =>
      have L : Hid (daysE f = 24) := Lib.hid (by rw [HD.out]; rw [if_neg HN1.out, if_pos ⟨HT0.out, .inl rfl⟩])
      go_enter Tryz.func54, Tryz.ntmps54
      go_wp2
      go_ret
      exact ⟨ret_i L.out.symm, HG.out _ _⟩
    | true =>
      by_cases hle : f.to ≤ f.fr
      · skip
        have L : Hid (daysE f = 24) := Lib.hid (by rw [HD.out]; rw [if_neg HN1.out, if_pos ⟨HT0.out, .inr hle⟩])
        go_enter Tryz.func54, Tryz.ntmps54
        go_wp2
        go_ret
        exact ⟨ret_i L.out.symm, HG.out _ _⟩
      by_cases hg : 84006 < f.to
      · skip
        have L : Hid (daysE f = 15) := Lib.hid (by rw [HD.out]; rw [if_neg HN1.out, if_neg (fun h => h.2.elim (fun h => by cases h) hle), if_pos hg])
        go_enter Tryz.func54, Tryz.ntmps54
        go_wp2
        go_ret
        exact ⟨ret_i L.out.symm, HG.out _ _⟩
      have L : Hid (daysE f = 0) := Lib.hid (by rw [HD.out]; rw [if_neg HN1.out, if_neg (fun h => h.2.elim (fun h => by cases h) hle), if_neg hg])
      go_enter Tryz.func54, Tryz.ntmps54
      go_wp2
      go_ret
      exact ⟨ret_i L.out.symm, HG.out _ _⟩
end Go.Proofs.YtmngghglcgmkeaaGreatDoor

/- What is wrong with a fact: the program's Check, walked. -/
namespace Go.Proofs.YtmngghglcgmkeaaGreatDoor
open Go.RowKit Go.Sort

theorem ruleNew {wa w4 : World} (h : Below wa.drew.heap.size wa.drew w4) (nm : ByteArray) (fi da : Bool) (cf tf : Nat) (lo hi : Int) :
    Bk w4.heap.size 114 #[.string nm, .bool fi, .bool da, .func (.func cf) #[] #[], .int .i64 lo, .int .i64 hi, .func (.func tf) #[] #[]] (w4.alloc (.cells #[.string nm, .bool fi, .bool da, .func (.func cf) #[] #[], .int .i64 lo, .int .i64 hi, .func (.func tf) #[] #[]] 114)) ∧ Below wa.heap.size wa (w4.alloc (.cells #[.string nm, .bool fi, .bool da, .func (.func cf) #[] #[], .int .i64 lo, .int .i64 hi, .func (.func tf) #[] #[]] 114)) :=
  ⟨Bk.new w4 _ _, bTrans (bDrew wa) (bTrans h (bAlloc w4 _))⟩
theorem rule7 {g B : Nat} {w0 w4 : World} (h : Bk g 114 #[.string ⟨#[]⟩, .bool false, .bool false, .nilFunc, .int .i64 0, .int .i64 0, .nilFunc] w4) (k : Below B w0 w4) (hB : B ≤ g) (nm : ByteArray) (fi da : Bool) (cf tf : Nat) (lo hi : Int) :
    Bk g 114 #[.string nm, .bool fi, .bool da, .func (.func cf) #[] #[], .int .i64 lo, .int .i64 hi, .func (.func tf) #[] #[]] (((((((w4.setCell ⟨g, 0, none⟩ (.string nm)).setCell ⟨g, 1, none⟩ (.bool fi)).setCell ⟨g, 2, none⟩ (.bool da)).setCell ⟨g, 3, none⟩ (.func (.func cf) #[] #[])).setCell ⟨g, 4, none⟩ (.int .i64 lo)).setCell ⟨g, 5, none⟩ (.int .i64 hi)).setCell ⟨g, 6, none⟩ (.func (.func tf) #[] #[])) ∧ Below B w0 (((((((w4.setCell ⟨g, 0, none⟩ (.string nm)).setCell ⟨g, 1, none⟩ (.bool fi)).setCell ⟨g, 2, none⟩ (.bool da)).setCell ⟨g, 3, none⟩ (.func (.func cf) #[] #[])).setCell ⟨g, 4, none⟩ (.int .i64 lo)).setCell ⟨g, 5, none⟩ (.int .i64 hi)).setCell ⟨g, 6, none⟩ (.func (.func tf) #[] #[])) := by
  refine ⟨?_, (((((((k.setCell (p := ⟨g, 0, none⟩) hB (.string nm)).setCell (p := ⟨g, 1, none⟩) hB (.bool fi)).setCell (p := ⟨g, 2, none⟩) hB (.bool da)).setCell (p := ⟨g, 3, none⟩) hB (.func (.func cf) #[] #[])).setCell (p := ⟨g, 4, none⟩) hB (.int .i64 lo)).setCell (p := ⟨g, 5, none⟩) hB (.int .i64 hi)).setCell (p := ⟨g, 6, none⟩) hB (.func (.func tf) #[] #[]))⟩
  have hz := (((((((h.set_ 0 (.string nm)).set_ 1 (.bool fi)).set_ 2 (.bool da)).set_ 3 (.func (.func cf) #[] #[])).set_ 4 (.int .i64 lo)).set_ 5 (.int .i64 hi)).set_ 6 (.func (.func tf) #[] #[]))
  exact hz

set_option maxHeartbeats 4000000 in
set_option maxRecDepth 100000 in
theorem fc_Check (f : Fa) (w : World) (hf : Fit f) (hT : Tb w) : Calls Tryz.prog 27 #[valF f] w fun e w' => e = .returned (.int .i64 (chkF f)) ∧ Below w.heap.size w w' := by
  have hki := hf.ki
  have HF := Lib.hid hf
  have HT := Lib.hid hT
  clear hf hT
  obtain ⟨fb, hfb⟩ : ∃ x, w.heap.size = x := ⟨_, rfl⟩
  obtain ⟨wa, hwa⟩ : ∃ x, w.alloc (.cells #[.int .u32 f.id, .int .u32 f.pe, .int .i64 f.ki, .int .i64 f.fr, .int .i64 f.to, .string f.co, .int .i64 f.nu, .string f.tx] 26) = x := ⟨_, rfl⟩
  have hb0 : Bk fb 26 #[.int .u32 f.id, .int .u32 f.pe, .int .i64 f.ki, .int .i64 f.fr, .int .i64 f.to, .string f.co, .int .i64 f.nu, .string f.tx] wa := by rw [← hwa, ← hfb]; exact Bk.new _ _ _
  have hBA : Below w.heap.size w wa := by rw [← hwa]; exact bAlloc w _
  have HB0 := Lib.hid hb0
  have HBA := Lib.hid hBA
  have HTA : Hid (Tb wa) := Lib.hid (HT.out.below hBA)
  unfold valF
  go_enter Tryz.func27, Tryz.ntmps27
  have A2 : wa.cell? ⟨fb, 2, none⟩ = some (.int .i64 f.ki) := hb0.cell 2
  clear hb0 hBA
  go_upto_region 1 with fail
  clear hwa hfb
  go_wp2_with fail
  refine (fc_known _ _).mono ?_
  rintro e w1 ⟨rfl, rfl⟩
  by_cases hk : 1 ≤ f.ki ∧ f.ki ≤ 18
  · rw [decide_eq_true hk]
    obtain ⟨nm, cf, tf, hrv, hco, htx⟩ := rule_parts f.ki hk.1 hk.2
    have HRV := Lib.hid hrv
    have HCO := Lib.hid hco
    have HTX := Lib.hid htx
    have HRA := Lib.hid (fun W => rules_at f.ki hk.1 hk.2 W)
    rw [hrv] at HRA
    have HK := Lib.hid hk
    clear hrv hco htx hk
    go_upto_region 3 with fail
    obtain ⟨RA, hRA⟩ : ∃ x, rulesA = x := ⟨_, rfl⟩
    rw [hRA] at HRA
    have HRU : Hid (∀ W, Calls Tryz.prog 53 #[] W fun e w' => e = .returned (.agg RA) ∧ Below W.heap.size W w') := Lib.hid (fun W => by have := fc_rules W; rw [hRA] at this; exact this)
    clear hRA
    go_cut [3] from 9 to 12 (fun pv wx => ∃ rb : Nat, pv = .pointer (some ⟨rb, 0, none⟩) ∧ Hid (Bk rb 114 #[.string nm, .bool (firmB f.ki), .bool (daysB f.ki), .func (.func cf) #[] #[], .int .i64 (lowN f.ki), .int .i64 (highN f.ki), .func (.func tf) #[] #[]] wx) ∧ Hid (Below wa.heap.size wa wx))
    case first =>
      have hix := HRA.out
      generalize firmB f.ki = fi at *
      generalize daysB f.ki = da at *
      generalize lowN f.ki = lo at *
      generalize highN f.ki = hi at *
      have KK : Hid (∀ W w', Grows wa W → Below W.heap.size W w' → w'.cell? ⟨fb, 2, none⟩ = some (.int .i64 f.ki)) := Lib.hid (fun W w' hW hb => by
        have h1 := HB0.out.grows hW
        have h2 : Bk fb 26 #[.int .u32 f.id, .int .u32 f.pe, .int .i64 f.ki, .int .i64 f.fr, .int .i64 f.to, .string f.co, .int .i64 f.nu, .string f.tx] w' := (hb.block fb h1.lt).trans h1
        exact h2.cell 2)
      have hlt := HB0.out.lt
      have hne : ¬ fb = wa.heap.size := by omega
      have HGD : Hid (Grows wa wa.drew) := Lib.hid (Grows.of_drew wa)
      have HGA : Hid (∀ o, Grows wa (wa.alloc o).drew) := Lib.hid (fun o => (Grows.of_alloc wa o).drew)
      have HNB : Hid (∀ w4, Below (wa.alloc (.cells #[.string ⟨#[]⟩, .bool false, .bool false, .nilFunc, .int .i64 0, .int .i64 0, .nilFunc] 114)).drew.heap.size (wa.alloc (.cells #[.string ⟨#[]⟩, .bool false, .bool false, .nilFunc, .int .i64 0, .int .i64 0, .nilFunc] 114)).drew w4 → Bk wa.heap.size 114 #[.string ⟨#[]⟩, .bool false, .bool false, .nilFunc, .int .i64 0, .int .i64 0, .nilFunc] w4 ∧ Below wa.heap.size wa w4) := Lib.hid (fun w4 h => ⟨(h.block wa.heap.size (size_new wa _)).trans (new_block wa _), bTrans (HGA.out _).below h⟩)
      have AA : ∀ o, (wa.alloc o).drew.cell? ⟨fb, 2, none⟩ = some (.int .i64 f.ki) := fun o => (HGA.out o).cell hlt A2
      go_region_with (first | (go_at_call 53; with_reducible refine (HRU.out wa.drew).mono ?_; rintro e' w4 ⟨rfl, hbA⟩; have A2 := KK.out _ _ HGD.out hbA; have hlt := cell_lt A2) | (go_at_call 53; refine (HRU.out _).mono ?_; rintro e' w4 ⟨rfl, hbB⟩; have z0 := (HNB.out _ hbB).1.cell 0; have z1 := (HNB.out _ hbB).1.cell 1; have z2 := (HNB.out _ hbB).1.cell 2; have z3 := (HNB.out _ hbB).1.cell 3; have z4 := (HNB.out _ hbB).1.cell 4; have z5 := (HNB.out _ hbB).1.cell 5; have z6 := (HNB.out _ hbB).1.cell 6; have y0 := (HNB.out _ hbB).1.frozen 0; have y1 := (HNB.out _ hbB).1.frozen 1; have y2 := (HNB.out _ hbB).1.frozen 2; have y3 := (HNB.out _ hbB).1.frozen 3; have y4 := (HNB.out _ hbB).1.frozen 4; have y5 := (HNB.out _ hbB).1.frozen 5; have y6 := (HNB.out _ hbB).1.frozen 6; have A2 := KK.out _ _ (HGA.out _) hbB; have hlt := cell_lt A2))
      all_goals (
        clear KK HRU HRA HRV
        go_wp2_with fail
        go_meet
        first
          | (have hr := ruleNew hbA nm fi da cf tf lo hi; refine ⟨w4.heap.size, rfl, Lib.hid hr.1, Lib.hid hr.2⟩)
          | (have hr := rule7 (HNB.out _ hbB).1 (HNB.out _ hbB).2 (Nat.le_refl _) nm fi da cf tf lo hi; refine ⟨wa.heap.size, rfl, Lib.hid hr.1, Lib.hid hr.2⟩))
    case rest =>
    obtain ⟨rb, rfl, HRB, HBC⟩ := hcut
    obtain ⟨w5, rfl⟩ : ∃ w5 : World, w5 = wc := ⟨_, rfl⟩
    have HDY := Lib.hid (fun W => fc_days f nm (firmB f.ki) cf tf (lowN f.ki) (highN f.ki) W)
    have hlh := lowhigh f.ki
    have HFI : Hid (∃ x, firmB f.ki = x) := Lib.hid ⟨_, rfl⟩
    have HCH : Hid (chkF f = if firmB f.ki ≠ decide (f.pe = 0) then 2 else if daysE f ≠ 0 then daysE f else if codeB f.ki (ls f.co) = false then 12 else if f.nu < lowN f.ki ∨ highN f.ki < f.nu then 2 else if 4096 < f.tx.size then 4 else if textB f.ki f.nu (ls f.tx) = false then 3 else 0) := Lib.hid (if_neg (by have := HK.out; omega))
    clear A2 HFI
    obtain ⟨fi, hfi⟩ : ∃ x, firmB f.ki = x := ⟨_, rfl⟩
    obtain ⟨da, hda⟩ : ∃ x, daysB f.ki = x := ⟨_, rfl⟩
    obtain ⟨lo, hlo⟩ : ∃ x, lowN f.ki = x := ⟨_, rfl⟩
    obtain ⟨hi, hhi⟩ : ∃ x, highN f.ki = x := ⟨_, rfl⟩
    obtain ⟨de, hde⟩ : ∃ x, daysE f = x := ⟨_, rfl⟩
    rw [hfi, hda, hlo, hhi] at HRB
    rw [hfi, hlo, hhi, hda, hde] at HDY
    rw [hfi, hlo, hhi, hde] at HCH
    rw [hlo, hhi] at hlh
    clear hfi hda hlo hhi hde HRV HRA HRU
    have HM : Hid (Bk fb 26 #[.int .u32 f.id, .int .u32 f.pe, .int .i64 f.ki, .int .i64 f.fr, .int .i64 f.to, .string f.co, .int .i64 f.nu, .string f.tx] w5 ∧ Bk rb 114 #[.string nm, .bool (fi), .bool (da), .func (.func cf) #[] #[], .int .i64 (lo), .int .i64 (hi), .func (.func tf) #[] #[]] w5 ∧ Below wa.heap.size wa w5) := Lib.hid ⟨(HBC.out.block fb HB0.out.lt).trans HB0.out, HRB.out, HBC.out⟩
    have HBE := Lib.hid (fun W (h : Below w5.heap.size w5 W) => bTrans HBA.out (bTrans HBC.out h))
    have HKEEP : Hid (∀ W, Below w5.heap.size w5 W → Bk fb 26 #[.int .u32 f.id, .int .u32 f.pe, .int .i64 f.ki, .int .i64 f.fr, .int .i64 f.to, .string f.co, .int .i64 f.nu, .string f.tx] W ∧ Bk rb 114 #[.string nm, .bool (fi), .bool (da), .func (.func cf) #[] #[], .int .i64 (lo), .int .i64 (hi), .func (.func tf) #[] #[]] W ∧ Below w5.heap.size w5 W) := Lib.hid (fun W h => ⟨(h.block fb HM.out.1.lt).trans HM.out.1, (h.block rb HM.out.2.1.lt).trans HM.out.2.1, h⟩)
    have HM0 := Lib.hid (HKEEP.out w5 (Below.refl _ _))
    clear HM HRB
    have F1 : w5.cell? ⟨fb, 1, none⟩ = some (.int .u32 f.pe) := HM0.out.1.cell 1
    have R1 : w5.cell? ⟨rb, 1, none⟩ = some (.bool (fi)) := HM0.out.2.1.cell 1
    by_cases hfm : fi ≠ decide (f.pe = 0)
    · have L : Hid (chkF f = 2) := Lib.hid (by rw [HCH.out, if_pos hfm])
      have bf : (fi == (f.pe == 0)) = false := beq_eq_false_iff_ne.2 hfm
      clear hfm
      go_wp2
      go_ret
      exact ⟨ret_i L.out.symm, HBE.out _ (Below.refl _ _)⟩
    have HC1 : Hid (chkF f = if de ≠ 0 then de else if codeB f.ki (ls f.co) = false then 12 else if f.nu < lo ∨ hi < f.nu then 2 else if 4096 < f.tx.size then 4 else if textB f.ki f.nu (ls f.tx) = false then 3 else 0) := Lib.hid (by rw [HCH.out, if_neg hfm])
    have bf : (fi == (f.pe == 0)) = true := beq_iff_eq.2 (Decidable.not_not.1 hfm)
    clear hfm
    go_upto_region 6 with fail
    have F0 : w5.cell? ⟨fb, 0, none⟩ = some (.int .u32 f.id) := HM0.out.1.cell 0
    have F2 : w5.cell? ⟨fb, 2, none⟩ = some (.int .i64 f.ki) := HM0.out.1.cell 2
    have F3 : w5.cell? ⟨fb, 3, none⟩ = some (.int .i64 f.fr) := HM0.out.1.cell 3
    have F4 : w5.cell? ⟨fb, 4, none⟩ = some (.int .i64 f.to) := HM0.out.1.cell 4
    have F5 : w5.cell? ⟨fb, 5, none⟩ = some (.string f.co) := HM0.out.1.cell 5
    have F6 : w5.cell? ⟨fb, 6, none⟩ = some (.int .i64 f.nu) := HM0.out.1.cell 6
    have F7 : w5.cell? ⟨fb, 7, none⟩ = some (.string f.tx) := HM0.out.1.cell 7
    have R0 : w5.cell? ⟨rb, 0, none⟩ = some (.string nm) := HM0.out.2.1.cell 0
    have R2 : w5.cell? ⟨rb, 2, none⟩ = some (.bool (da)) := HM0.out.2.1.cell 2
    have R3 : w5.cell? ⟨rb, 3, none⟩ = some (.func (.func cf) #[] #[]) := HM0.out.2.1.cell 3
    have R4 : w5.cell? ⟨rb, 4, none⟩ = some (.int .i64 (lo)) := HM0.out.2.1.cell 4
    have R5 : w5.cell? ⟨rb, 5, none⟩ = some (.int .i64 (hi)) := HM0.out.2.1.cell 5
    have R6 : w5.cell? ⟨rb, 6, none⟩ = some (.func (.func tf) #[] #[]) := HM0.out.2.1.cell 6
    unfold valF at HDY
    go_wp2_with fail
    refine (HDY.out _).mono ?_
    rintro e w6 ⟨rfl, hb6⟩
    have HM1 := Lib.hid (HKEEP.out w6 hb6)
    clear F0 F1 F2 F3 F4 F5 F6 F7 R0 R1 R2 R3 R4 R5 R6 hb6 bf
    by_cases hde : de = 0
    · have bd : (de != 0) = false := by rw [hde]; rfl
      have HC2 : Hid (chkF f = if codeB f.ki (ls f.co) = false then 12 else if f.nu < lo ∨ hi < f.nu then 2 else if 4096 < f.tx.size then 4 else if textB f.ki f.nu (ls f.tx) = false then 3 else 0) := Lib.hid (by rw [HC1.out, if_neg (fun h => h hde)])
      clear hde
      have F5 : w6.cell? ⟨fb, 5, none⟩ = some (.string f.co) := HM1.out.1.cell 5
      have R3 : w6.cell? ⟨rb, 3, none⟩ = some (.func (.func cf) #[] #[]) := HM1.out.2.1.cell 3
      have hec := HCO.out.enter
      go_upto_region 9 with fail
      go_cut [25] from 26 to 31 (fun q wx => q = .bool (!codeB f.ki (ls f.co)) ∧ Hid (Below w5.heap.size w5 wx))
      case first =>
        have HCC := Lib.hid (HCO.out.calls f.co)
        have hfco := HF.out.co
        generalize codeB f.ki (ls f.co) = cb at *
        go_wp2_with fail
        refine (HCC.out _ hfco).mono ?_
        rintro e w7 ⟨rfl, hb7⟩
        have HB7 := Lib.hid (bTrans HM1.out.2.2 hb7)
        clear hb7
        go_wp2
        go_meet
        exact ⟨rfl, HB7⟩
      case rest =>
      obtain ⟨rfl, HB7⟩ := hcut
      obtain ⟨w7, rfl⟩ : ∃ w7 : World, w7 = wc := ⟨_, rfl⟩
      have HM2 := Lib.hid (HKEEP.out w7 HB7.out)
      clear F5 R3 hec
      have F6 : w7.cell? ⟨fb, 6, none⟩ = some (.int .i64 f.nu) := HM2.out.1.cell 6
      have F7 : w7.cell? ⟨fb, 7, none⟩ = some (.string f.tx) := HM2.out.1.cell 7
      have R4 : w7.cell? ⟨rb, 4, none⟩ = some (.int .i64 (lo)) := HM2.out.2.1.cell 4
      have R5 : w7.cell? ⟨rb, 5, none⟩ = some (.int .i64 (hi)) := HM2.out.2.1.cell 5
      obtain ⟨cb, hcb⟩ : ∃ x, codeB f.ki (ls f.co) = x := ⟨_, rfl⟩
      have HC3 : Hid (chkF f = if cb = false then 12 else if f.nu < lo ∨ hi < f.nu then 2 else if 4096 < f.tx.size then 4 else if textB f.ki f.nu (ls f.tx) = false then 3 else 0) := Lib.hid (by rw [HC2.out, hcb])
      rw [hcb]
      clear hcb
      cases cb with
      | false =>
        have L : Hid (chkF f = 12) := Lib.hid (by rw [HC3.out]; rfl)
        go_wp2
        go_ret
        exact ⟨ret_i L.out.symm, HBE.out _ HB7.out⟩
      | true =>
        by_cases hlo : f.nu < lo
        · have L : Hid (chkF f = 2) := Lib.hid (by rw [HC3.out, if_neg (by simp), if_pos (.inl hlo)])
          go_wp2
          go_ret
          exact ⟨ret_i L.out.symm, HBE.out _ HB7.out⟩
        by_cases hhi : hi < f.nu
        · have L : Hid (chkF f = 2) := Lib.hid (by rw [HC3.out, if_neg (by simp), if_pos (.inr hhi)])
          go_wp2
          go_ret
          exact ⟨ret_i L.out.symm, HBE.out _ HB7.out⟩
        have htxs := HF.out.tx
        by_cases hlg : 4096 < (f.tx.size : Int)
        · have L : Hid (chkF f = 4) := Lib.hid (by rw [HC3.out, if_neg (by simp), if_neg (fun h => h.elim hlo hhi), if_pos (by omega)])
          go_wp2
          go_ret
          exact ⟨ret_i L.out.symm, HBE.out _ HB7.out⟩
        have HC4 : Hid (chkF f = if textB f.ki f.nu (ls f.tx) = false then 3 else 0) := Lib.hid (by rw [HC3.out, if_neg (by simp), if_neg (fun h => h.elim hlo hhi), if_neg (by omega)])
        go_upto_region 15 with fail
        clear F6 F7 R4 R5
        have F0 : w7.cell? ⟨fb, 0, none⟩ = some (.int .u32 f.id) := HM2.out.1.cell 0
        have F1 : w7.cell? ⟨fb, 1, none⟩ = some (.int .u32 f.pe) := HM2.out.1.cell 1
        have F2 : w7.cell? ⟨fb, 2, none⟩ = some (.int .i64 f.ki) := HM2.out.1.cell 2
        have F3 : w7.cell? ⟨fb, 3, none⟩ = some (.int .i64 f.fr) := HM2.out.1.cell 3
        have F4 : w7.cell? ⟨fb, 4, none⟩ = some (.int .i64 f.to) := HM2.out.1.cell 4
        have F5 : w7.cell? ⟨fb, 5, none⟩ = some (.string f.co) := HM2.out.1.cell 5
        have F6 : w7.cell? ⟨fb, 6, none⟩ = some (.int .i64 f.nu) := HM2.out.1.cell 6
        have F7 : w7.cell? ⟨fb, 7, none⟩ = some (.string f.tx) := HM2.out.1.cell 7
        have R6 : w7.cell? ⟨rb, 6, none⟩ = some (.func (.func tf) #[] #[]) := HM2.out.2.1.cell 6
        have hec := HTX.out.enter
        have HXC := Lib.hid (fun W hT => HTX.out.calls f W HF.out rfl hT)
        unfold valF at HXC
        obtain ⟨tb, htb⟩ : ∃ x, textB f.ki f.nu (ls f.tx) = x := ⟨_, rfl⟩
        rw [htb] at HXC HC4
        clear htb
        have T7 : Hid (Tb w7) := Lib.hid (HT.out.below (HBE.out _ HB7.out))
        go_wp2_with fail
        refine (HXC.out _ T7.out).mono ?_
        rintro e w8 ⟨rfl, hb8⟩
        have HB8 := Lib.hid (HBE.out _ (bTrans HB7.out hb8))
        clear hb8
        cases tb with
        | false =>
          have L : Hid (chkF f = 3) := Lib.hid (by rw [HC4.out]; rfl)
          go_wp2
          go_ret
          exact ⟨ret_i L.out.symm, HB8.out⟩
        | true =>
          have L : Hid (chkF f = 0) := Lib.hid (by rw [HC4.out]; rfl)
          go_wp2
          go_ret
          exact ⟨ret_i L.out.symm, HB8.out⟩
    · have bd : (de != 0) = true := bne_iff_ne.2 hde
      have L : Hid (chkF f = de) := Lib.hid (by rw [HC1.out, if_pos hde])
      clear hde
      go_wp2
      go_ret
      exact ⟨ret_i L.out.symm, HBE.out _ HM1.out.2.2⟩
  · have L : Hid (chkF f = 11) := Lib.hid (if_pos (by omega))
    rw [decide_eq_false hk]
    clear hk
    go_wp2
    go_ret
    exact ⟨ret_i L.out.symm, HBA.out⟩
end Go.Proofs.YtmngghglcgmkeaaGreatDoor

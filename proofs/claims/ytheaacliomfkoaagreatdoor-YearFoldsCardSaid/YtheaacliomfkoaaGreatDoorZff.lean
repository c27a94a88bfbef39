/- Out of: Rule Chks Thos. -/
import Derived.Test.YtheaacliomfkoaaGreatDoorSh
import Derived.Test.YtheaacliomfkoaaGreatDoorZfa
import Derived.Test.YtheaacliomfkoaaGreatDoorZfd
import Derived.Test.YtheaacliomfkoaaGreatDoorZfe
import Derived.Below
import Derived.BigQuiet
import Derived.Deep.Cut
import Derived.Deep.CutRange
import Derived.Deep.QuietTactic
import Derived.Deep.RegionHeld3
import Derived.Deep.RegionLaw
import Derived.Deep.RegionWith
import Derived.Deep.Upon
import Derived.Laws.AppendOwn
import Derived.Laws.CopyOwn
import Derived.Laws.EntriesVeiled
import Derived.Laws.OwnMore
import Derived.Laws.Rows
import Derived.Laws.Tables
import Derived.Lib.Hide
import Derived.OwnWalk
import Derived.WalkKit
/- Merged from: Abs Rul. -/
/- Absences' codes; what a kind asks of a text. -/
namespace Go.Proofs.YtheaacliomfkoaaGreatDoor
open Go.RowKit Go.Sort

def absL : List ByteArray := [⟨#[115, 105, 99, 107]⟩, ⟨#[108, 101, 97, 118, 101]⟩, ⟨#[117, 110, 112, 97, 105, 100]⟩, ⟨#[112, 97, 114, 101, 110, 116, 97, 108]⟩]
theorem ls_inj {a b : ByteArray} (h : ls a = ls b) : a = b := by
  cases a; cases b
  unfold ls at h
  simp only at h
  rw [Array.toList_inj.1 h]
theorem abs_eq (s : ByteArray) : Lib.containsS (absL.take 4) s = absenceB (ls s) := by
  rw [Bool.eq_iff_iff, Lib.containsS_iff]
  unfold absenceB
  rw [decide_eq_true_eq]
  constructor
  · intro h
    simp only [absL, List.take_succ_cons, List.take_zero, List.mem_cons, List.not_mem_nil, or_false] at h
    rcases h with rfl | rfl | rfl | rfl
    · exact .inl rfl
    · exact .inr (.inl rfl)
    · exact .inr (.inr (.inl rfl))
    · exact .inr (.inr (.inr rfl))
  · intro h
    simp only [absL, List.take_succ_cons, List.take_zero, List.mem_cons, List.not_mem_nil, or_false]
    rcases h with h | h | h | h
    · exact .inl (ls_inj h)
    · exact .inr (.inl (ls_inj h))
    · exact .inr (.inr (.inl (ls_inj h)))
    · exact .inr (.inr (.inr (ls_inj h)))
theorem fc_absence (s : ByteArray) (w : World) : Calls Tryz.prog 165 #[.string s] w fun e w' => e = .returned (.bool (absenceB (ls s))) ∧ Grows w w' := by
  have HC : Hid (∀ W b, (∀ j, j < absL.length → W.cell? ⟨b, 0 + j, none⟩ = some (.string (absL.getD j ByteArray.empty))) → Calls Tryz.prog 184 #[.slice (some ⟨b, 0, none⟩) 4 4, .string s] W fun e w' => e = .returned (.bool (absenceB (ls s))) ∧ W = w') := Lib.hid (fun W b h => by
    refine (Tryz.slices_Contains_string b 0 4 4 absL s W (Nat.le_refl 4) (by omega) h).mono ?_
    rintro e w1 ⟨rfl, rfl⟩
    exact ⟨by rw [abs_eq], rfl⟩)
  have HG : Hid (∀ o, Grows w (w.alloc o)) := Lib.hid (fun o => .of_alloc w o)
  have HN : Hid (∀ j, j < absL.length → (w.alloc (.cells #[.string ⟨#[115, 105, 99, 107]⟩, .string ⟨#[108, 101, 97, 118, 101]⟩, .string ⟨#[117, 110, 112, 97, 105, 100]⟩, .string ⟨#[112, 97, 114, 101, 110, 116, 97, 108]⟩] 9)).cell? ⟨w.heap.size, 0 + j, none⟩ = some (.string (absL.getD j ByteArray.empty))) := Lib.hid (fun j hj => by
    rw [Nat.zero_add]
    have h4 : absL.length = 4 := rfl
    have : j = 0 ∨ j = 1 ∨ j = 2 ∨ j = 3 := by omega
    rcases this with rfl | rfl | rfl | rfl <;> exact new_cell w _ _ _ rfl)
  go_enter Tryz.func165, Tryz.ntmps165
  go_wp2_with fail
  refine (HC.out _ _ HN.out).mono ?_
  rintro e w1 ⟨rfl, rfl⟩
  go_wp2
  go_ret
  exact ⟨rfl, HG.out _⟩
theorem fc_silent (f : Fa) (w : World) : Calls Tryz.prog 160 #[valF f] w fun e w' => e = .returned (.bool (ls f.tx == [])) ∧ Below w.heap.size w w' := by
  unfold valF
  have HG := Lib.hid (bAlloc w (.cells #[.int .u32 f.id, .int .u32 f.pe, .int .i64 f.ki, .int .i64 f.fr, .int .i64 f.to, .string f.co, .int .i64 f.nu, .string f.tx] 160))
  go_enter Tryz.func160, Tryz.ntmps160
  go_wp2
  go_ret
  exact ⟨ret_b (isEmpty_ls f.tx), HG.out⟩
theorem fc_named (f : Fa) (w : World) (hf : Fit f) (hT : Tb w) : Calls Tryz.prog 155 #[valF f] w fun e w' => e = .returned (.bool (nameB (ls f.tx))) ∧ Below w.heap.size w w' := by
  unfold valF
  obtain ⟨o, ho⟩ : ∃ o : Obj, (.cells #[.int .u32 f.id, .int .u32 f.pe, .int .i64 f.ki, .int .i64 f.fr, .int .i64 f.to, .string f.co, .int .i64 f.nu, .string f.tx] 160) = o := ⟨_, rfl⟩
  have HG := Lib.hid (ho ▸ bAlloc w o)
  have HN := Lib.hid (fun W => fc_isName f.tx W hf.tx)
  have HT : Hid (Tb (w.alloc (.cells #[.int .u32 f.id, .int .u32 f.pe, .int .i64 f.ki, .int .i64 f.fr, .int .i64 f.to, .string f.co, .int .i64 f.nu, .string f.tx] 160))) := Lib.hid (hT.alloc _)
  have hft := hf.tx
  clear ho hT
  go_enter Tryz.func155, Tryz.ntmps155
  go_wp2_with fail
  refine (HN.out _).mono ?_
  rintro e w1 ⟨rfl, hb⟩
  subst hb
  go_wp2
  go_ret
  exact ⟨rfl, bAlloc w _⟩
theorem fc_free (f : Fa) (w : World) (hf : Fit f) (hT : Tb w) : Calls Tryz.prog 156 #[valF f] w fun e w' => e = .returned (.bool (plainB (ls f.tx))) ∧ Below w.heap.size w w' := by
  unfold valF
  obtain ⟨o, ho⟩ : ∃ o : Obj, (.cells #[.int .u32 f.id, .int .u32 f.pe, .int .i64 f.ki, .int .i64 f.fr, .int .i64 f.to, .string f.co, .int .i64 f.nu, .string f.tx] 160) = o := ⟨_, rfl⟩
  have HG := Lib.hid (ho ▸ bAlloc w o)
  have HN := Lib.hid (fun W => fc_plain f.tx W hf.tx)
  have HT : Hid (Tb (w.alloc (.cells #[.int .u32 f.id, .int .u32 f.pe, .int .i64 f.ki, .int .i64 f.fr, .int .i64 f.to, .string f.co, .int .i64 f.nu, .string f.tx] 160))) := Lib.hid (hT.alloc _)
  have hft := hf.tx
  clear ho hT
  go_enter Tryz.func156, Tryz.ntmps156
  go_wp2_with fail
  refine (HN.out _).mono ?_
  rintro e w1 ⟨rfl, hb⟩
  subst hb
  go_wp2
  go_ret
  exact ⟨rfl, bAlloc w _⟩
theorem fc_cost (f : Fa) (w : World) (hf : Fit f) (hT : Tb w) : Calls Tryz.prog 162 #[valF f] w fun e w' => e = .returned (.bool (weightsB (ls f.tx))) ∧ Below w.heap.size w w' := by
  unfold valF
  obtain ⟨o, ho⟩ : ∃ o : Obj, (.cells #[.int .u32 f.id, .int .u32 f.pe, .int .i64 f.ki, .int .i64 f.fr, .int .i64 f.to, .string f.co, .int .i64 f.nu, .string f.tx] 160) = o := ⟨_, rfl⟩
  have HG := Lib.hid (ho ▸ bAlloc w o)
  have HN := Lib.hid (fun W hT => fc_weights f.tx W hf.tx hT)
  have HT : Hid (Tb (w.alloc (.cells #[.int .u32 f.id, .int .u32 f.pe, .int .i64 f.ki, .int .i64 f.fr, .int .i64 f.to, .string f.co, .int .i64 f.nu, .string f.tx] 160))) := Lib.hid (hT.alloc _)
  have hft := hf.tx
  clear ho hT
  go_enter Tryz.func162, Tryz.ntmps162
  go_wp2_with fail
  refine (HN.out _ HT.out).mono ?_
  rintro e w1 ⟨rfl, hb⟩
  
  go_wp2
  go_ret
  exact ⟨rfl, bTrans (bAlloc w _) hb⟩
theorem fc_attach (f : Fa) (w : World) (hf : Fit f) (hT : Tb w) : Calls Tryz.prog 166 #[valF f] w fun e w' => e = .returned (.bool (orderB (ls f.tx))) ∧ Below w.heap.size w w' := by
  unfold valF
  obtain ⟨o, ho⟩ : ∃ o : Obj, (.cells #[.int .u32 f.id, .int .u32 f.pe, .int .i64 f.ki, .int .i64 f.fr, .int .i64 f.to, .string f.co, .int .i64 f.nu, .string f.tx] 160) = o := ⟨_, rfl⟩
  have HG := Lib.hid (ho ▸ bAlloc w o)
  have HN := Lib.hid (fun W hT => fc_order f.tx W hf.tx hT)
  have HT : Hid (Tb (w.alloc (.cells #[.int .u32 f.id, .int .u32 f.pe, .int .i64 f.ki, .int .i64 f.fr, .int .i64 f.to, .string f.co, .int .i64 f.nu, .string f.tx] 160))) := Lib.hid (hT.alloc _)
  have hft := hf.tx
  clear ho hT
  go_enter Tryz.func166, Tryz.ntmps166
  go_wp2_with fail
  refine (HN.out _ HT.out).mono ?_
  rintro e w1 ⟨rfl, hb⟩
  
  go_wp2
  go_ret
  exact ⟨rfl, bTrans (bAlloc w _) hb⟩
theorem fc_told (f : Fa) (w : World) (hf : Fit f) : Calls Tryz.prog 158 #[valF f] w fun e w' => e = .returned (.bool (!(ls f.tx == []) && plainB (ls f.tx))) ∧ Below w.heap.size w w' := by
  unfold valF
  have HN := Lib.hid (fun W => fc_plain f.tx W hf.tx)
  cases he : (ls f.tx == []) with
  | true =>
    have h1 : f.tx.toList.isEmpty = true := by rw [isEmpty_ls]; exact he
    clear he
    go_enter Tryz.func158, Tryz.ntmps158
    go_wp2
    go_ret
    exact ⟨rfl, bAlloc w _⟩
  | false =>
    have h1 : f.tx.toList.isEmpty = false := by rw [isEmpty_ls]; exact he
    clear he
    go_enter Tryz.func158, Tryz.ntmps158
    go_wp2_with fail
    refine (HN.out _).mono ?_
    rintro e w1 ⟨rfl, rfl⟩
    go_wp2
    go_ret
    exact ⟨rfl, bAlloc w _⟩
theorem fc_weekly (f : Fa) (w : World) (hf : Fit f) : Calls Tryz.prog 161 #[valF f] w fun e w' => e = .returned (.bool (decide (weekE (ls f.tx) = 0))) ∧ Below w.heap.size w w' := by
  unfold valF
  have HN := Lib.hid (fun W => wk_Parse f.tx W hf.tx)
  obtain ⟨e0, he0⟩ : ∃ e, weekE (ls f.tx) = e := ⟨_, rfl⟩
  unfold weekR w7 at HN
  rw [he0]
  rw [he0] at HN
  clear he0
  go_enter Tryz.func161, Tryz.ntmps161
  go_wp2_with fail
  refine (HN.out _).mono ?_
  rintro e w1 ⟨rfl, hb⟩
  have HB := Lib.hid (bTrans (bAlloc w _) hb)
  by_cases h : e0 = 0
  · subst h
    go_wp2
    go_ret
    exact ⟨rfl, bTrans HB.out (bAlloc _ _)⟩
  · have h1 : (e0 == 0) = false := beq_eq_false_iff_ne.2 h
    have HF : Hid (decide (e0 = 0) = false) := Lib.hid (decide_eq_false h)
    clear h
    go_wp2
    go_ret
    exact ⟨ret_b HF.out.symm, bTrans HB.out (bAlloc _ _)⟩
theorem fc_night (f : Fa) (w : World) (hf : Fit f) (hT : Tb w) : Calls Tryz.prog 164 #[valF f] w fun e w' => e = .returned (.bool (ls f.tx == [] || (tensO (ls f.tx) f.nu.toNat).isSome)) ∧ Below w.heap.size w w' := by
  unfold valF
  have hn := hf.nu
  have HN : Hid (∀ W x, Tb W → x = ((f.nu.toNat : Nat) : Int) → Calls Tryz.prog 183 #[.string f.tx, .int .u64 x] W fun e w' => TensIs (ls f.tx) f.nu.toNat e ∧ Below W.heap.size W w') := Lib.hid (fun W x hT hx => by subst hx; exact fc_tens f.tx f.nu.toNat W (by omega) hf.tx hT)
  have HT : Hid (Tb (w.alloc (.cells #[.int .u32 f.id, .int .u32 f.pe, .int .i64 f.ki, .int .i64 f.fr, .int .i64 f.to, .string f.co, .int .i64 f.nu, .string f.tx] 160))) := Lib.hid (hT.alloc _)
  clear hT
  by_cases h0 : f.nu ≤ 0
  · have hmx : max f.nu 0 = 0 := by omega
    go_enter Tryz.func164, Tryz.ntmps164
    go_wp2_with fail
    refine (HN.out _ _ HT.out (by omega)).mono ?_
    rintro e w1 ⟨⟨v, rfl, _⟩, hb⟩
    have C7 : w1.cell? ⟨w.heap.size, 7, none⟩ = some (.string f.tx) := bCell hb (new_cell w _ _ _ rfl)
    have HB := Lib.hid (bTrans (bAlloc w _) hb)
    clear hb
    cases he : (ls f.tx == []) with
    | true =>
      have h1 : f.tx.toList.isEmpty = true := by rw [isEmpty_ls]; exact he
      have HF : Hid ((ls f.tx == [] || (tensO (ls f.tx) f.nu.toNat).isSome) = true) := Lib.hid (by rw [he]; rfl)
      clear he
      go_wp2
      go_ret
      exact ⟨ret_b HF.out.symm, HB.out⟩
    | false =>
      have h1 : f.tx.toList.isEmpty = false := by rw [isEmpty_ls]; exact he
      have HF : Hid ((ls f.tx == [] || (tensO (ls f.tx) f.nu.toNat).isSome) = (tensO (ls f.tx) f.nu.toNat).isSome) := Lib.hid (by rw [he]; rfl)
      clear he
      go_wp2
      go_ret
      exact ⟨ret_b HF.out.symm, HB.out⟩
  · have hmx : max f.nu 0 = f.nu := by omega
    go_enter Tryz.func164, Tryz.ntmps164
    go_wp2_with fail
    refine (HN.out _ _ HT.out (by omega)).mono ?_
    rintro e w1 ⟨⟨v, rfl, _⟩, hb⟩
    have C7 : w1.cell? ⟨w.heap.size, 7, none⟩ = some (.string f.tx) := bCell hb (new_cell w _ _ _ rfl)
    have HB := Lib.hid (bTrans (bAlloc w _) hb)
    clear hb
    cases he : (ls f.tx == []) with
    | true =>
      have h1 : f.tx.toList.isEmpty = true := by rw [isEmpty_ls]; exact he
      have HF : Hid ((ls f.tx == [] || (tensO (ls f.tx) f.nu.toNat).isSome) = true) := Lib.hid (by rw [he]; rfl)
      clear he
      go_wp2
      go_ret
      exact ⟨ret_b HF.out.symm, HB.out⟩
    | false =>
      have h1 : f.tx.toList.isEmpty = false := by rw [isEmpty_ls]; exact he
      have HF : Hid ((ls f.tx == [] || (tensO (ls f.tx) f.nu.toNat).isSome) = (tensO (ls f.tx) f.nu.toNat).isSome) := Lib.hid (by rw [he]; rfl)
      clear he
      go_wp2
      go_ret
      exact ⟨ret_b HF.out.symm, HB.out⟩
end Go.Proofs.YtheaacliomfkoaaGreatDoor

/- The rules of the kinds. -/
namespace Go.Proofs.YtheaacliomfkoaaGreatDoor
open Go.RowKit Go.Sort

/-- A kind's rule: its name, the firm's?, days?, its code, least, most, its text. -/
def ruleV (k : Int) : Array Value :=
  if k = 1 then #[.string ⟨#[101, 109, 112, 108, 111, 121]⟩, .bool false, .bool true, .func (.func 159) #[] #[], .int .i64 0, .int .i64 1, .func (.func 160) #[] #[]]
  else if k = 2 then #[.string ⟨#[115, 97, 108, 97, 114, 121]⟩, .bool false, .bool true, .func (.func 159) #[] #[], .int .i64 0, .int .i64 1125899906842624, .func (.func 160) #[] #[]]
  else if k = 3 then #[.string ⟨#[112, 97, 114, 116]⟩, .bool false, .bool true, .func (.func 159) #[] #[], .int .i64 0, .int .i64 1000000, .func (.func 160) #[] #[]]
  else if k = 4 then #[.string ⟨#[104, 111, 117, 114, 115]⟩, .bool false, .bool true, .func (.func 159) #[] #[], .int .i64 0, .int .i64 0, .func (.func 161) #[] #[]]
  else if k = 5 then #[.string ⟨#[99, 111, 115, 116]⟩, .bool false, .bool true, .func (.func 159) #[] #[], .int .i64 0, .int .i64 0, .func (.func 162) #[] #[]]
  else if k = 6 then #[.string ⟨#[115, 104, 101, 101, 116]⟩, .bool false, .bool false, .func (.func 153) #[] #[], .int .i64 0, .int .i64 1440, .func (.func 164) #[] #[]]
  else if k = 7 then #[.string ⟨#[97, 98, 115, 101, 110, 116]⟩, .bool false, .bool true, .func (.func 165) #[] #[], .int .i64 0, .int .i64 1000000, .func (.func 160) #[] #[]]
  else if k = 8 then #[.string ⟨#[98, 111, 110, 117, 115]⟩, .bool false, .bool false, .func (.func 154) #[] #[], .int .i64 (-1125899906842624), .int .i64 1125899906842624, .func (.func 160) #[] #[]]
  else if k = 9 then #[.string ⟨#[101, 110, 114, 111, 108]⟩, .bool false, .bool true, .func (.func 154) #[] #[], .int .i64 0, .int .i64 1125899906842624, .func (.func 160) #[] #[]]
  else if k = 10 then #[.string ⟨#[100, 101, 100, 117, 99, 116]⟩, .bool false, .bool true, .func (.func 154) #[] #[], .int .i64 0, .int .i64 1125899906842624, .func (.func 160) #[] #[]]
  else if k = 11 then #[.string ⟨#[99, 97, 114, 100]⟩, .bool false, .bool true, .func (.func 159) #[] #[], .int .i64 0, .int .i64 1125899906842624, .func (.func 155) #[] #[]]
  else if k = 12 then #[.string ⟨#[97, 116, 116, 97, 99, 104]⟩, .bool false, .bool true, .func (.func 154) #[] #[], .int .i64 0, .int .i64 1125899906842624, .func (.func 166) #[] #[]]
  else if k = 13 then #[.string ⟨#[98, 97, 110, 107]⟩, .bool false, .bool true, .func (.func 159) #[] #[], .int .i64 0, .int .i64 0, .func (.func 155) #[] #[]]
  else if k = 14 then #[.string ⟨#[114, 117, 108, 101]⟩, .bool true, .bool true, .func (.func 154) #[] #[], .int .i64 (-1125899906842624), .int .i64 1125899906842624, .func (.func 156) #[] #[]]
  else if k = 15 then #[.string ⟨#[101, 108, 101, 109, 101, 110, 116]⟩, .bool true, .bool true, .func (.func 154) #[] #[], .int .i64 0, .int .i64 0, .func (.func 158) #[] #[]]
  else if k = 16 then #[.string ⟨#[104, 111, 108, 105, 100, 97, 121]⟩, .bool true, .bool false, .func (.func 159) #[] #[], .int .i64 0, .int .i64 0, .func (.func 160) #[] #[]]
  else if k = 17 then #[.string ⟨#[103, 114, 97, 110, 116]⟩, .bool false, .bool false, .func (.func 159) #[] #[], .int .i64 0, .int .i64 100000, .func (.func 160) #[] #[]]
  else if k = 18 then #[.string ⟨#[99, 97, 110, 99, 101, 108]⟩, .bool true, .bool false, .func (.func 159) #[] #[], .int .i64 1, .int .i64 4096, .func (.func 160) #[] #[]]
  else #[.string ⟨#[]⟩, .bool false, .bool false, .nilFunc, .int .i64 0, .int .i64 0, .nilFunc]
def rulesA : Array Value := #[.string ⟨#[]⟩, .bool false, .bool false, .nilFunc, .int .i64 0, .int .i64 0, .nilFunc, .string ⟨#[101, 109, 112, 108, 111, 121]⟩, .bool false, .bool true, .func (.func 159) #[] #[], .int .i64 0, .int .i64 1, .func (.func 160) #[] #[], .string ⟨#[115, 97, 108, 97, 114, 121]⟩, .bool false, .bool true, .func (.func 159) #[] #[], .int .i64 0, .int .i64 1125899906842624, .func (.func 160) #[] #[], .string ⟨#[112, 97, 114, 116]⟩, .bool false, .bool true, .func (.func 159) #[] #[], .int .i64 0, .int .i64 1000000, .func (.func 160) #[] #[], .string ⟨#[104, 111, 117, 114, 115]⟩, .bool false, .bool true, .func (.func 159) #[] #[], .int .i64 0, .int .i64 0, .func (.func 161) #[] #[], .string ⟨#[99, 111, 115, 116]⟩, .bool false, .bool true, .func (.func 159) #[] #[], .int .i64 0, .int .i64 0, .func (.func 162) #[] #[], .string ⟨#[115, 104, 101, 101, 116]⟩, .bool false, .bool false, .func (.func 153) #[] #[], .int .i64 0, .int .i64 1440, .func (.func 164) #[] #[], .string ⟨#[97, 98, 115, 101, 110, 116]⟩, .bool false, .bool true, .func (.func 165) #[] #[], .int .i64 0, .int .i64 1000000, .func (.func 160) #[] #[], .string ⟨#[98, 111, 110, 117, 115]⟩, .bool false, .bool false, .func (.func 154) #[] #[], .int .i64 (-1125899906842624), .int .i64 1125899906842624, .func (.func 160) #[] #[], .string ⟨#[101, 110, 114, 111, 108]⟩, .bool false, .bool true, .func (.func 154) #[] #[], .int .i64 0, .int .i64 1125899906842624, .func (.func 160) #[] #[], .string ⟨#[100, 101, 100, 117, 99, 116]⟩, .bool false, .bool true, .func (.func 154) #[] #[], .int .i64 0, .int .i64 1125899906842624, .func (.func 160) #[] #[], .string ⟨#[99, 97, 114, 100]⟩, .bool false, .bool true, .func (.func 159) #[] #[], .int .i64 0, .int .i64 1125899906842624, .func (.func 155) #[] #[], .string ⟨#[97, 116, 116, 97, 99, 104]⟩, .bool false, .bool true, .func (.func 154) #[] #[], .int .i64 0, .int .i64 1125899906842624, .func (.func 166) #[] #[], .string ⟨#[98, 97, 110, 107]⟩, .bool false, .bool true, .func (.func 159) #[] #[], .int .i64 0, .int .i64 0, .func (.func 155) #[] #[], .string ⟨#[114, 117, 108, 101]⟩, .bool true, .bool true, .func (.func 154) #[] #[], .int .i64 (-1125899906842624), .int .i64 1125899906842624, .func (.func 156) #[] #[], .string ⟨#[101, 108, 101, 109, 101, 110, 116]⟩, .bool true, .bool true, .func (.func 154) #[] #[], .int .i64 0, .int .i64 0, .func (.func 158) #[] #[], .string ⟨#[104, 111, 108, 105, 100, 97, 121]⟩, .bool true, .bool false, .func (.func 159) #[] #[], .int .i64 0, .int .i64 0, .func (.func 160) #[] #[], .string ⟨#[103, 114, 97, 110, 116]⟩, .bool false, .bool false, .func (.func 159) #[] #[], .int .i64 0, .int .i64 100000, .func (.func 160) #[] #[], .string ⟨#[99, 97, 110, 99, 101, 108]⟩, .bool true, .bool false, .func (.func 159) #[] #[], .int .i64 1, .int .i64 4096, .func (.func 160) #[] #[]]
theorem rules_at (k : Int) (h1 : 1 ≤ k) (h2 : k ≤ 18) (w : World) : (Instr.index 186 (.agg rulesA) (.int .i64 k)).run Tryz.prog w = .ok (.agg (ruleV k)) w := by
  have : k = 1 ∨ k = 2 ∨ k = 3 ∨ k = 4 ∨ k = 5 ∨ k = 6 ∨ k = 7 ∨ k = 8 ∨ k = 9 ∨ k = 10 ∨ k = 11 ∨ k = 12 ∨ k = 13 ∨ k = 14 ∨ k = 15 ∨ k = 16 ∨ k = 17 ∨ k = 18 := by omega
  rcases this with rfl | rfl | rfl | rfl | rfl | rfl | rfl | rfl | rfl | rfl | rfl | rfl | rfl | rfl | rfl | rfl | rfl | rfl <;> (show Sem.run _ _ _ = _; kernel_rfl)
theorem setRow_below (w : World) (o : Obj) (cs : Array Value) : Below w.heap.size w ((w.alloc o).setRow w.heap.size cs) := by
  have h := bAlloc w o
  refine ⟨h.os, h.tape, h.output, by simp [World.setRow], fun k hk => ?_⟩
  rw [← h.block k hk]
  unfold World.setRow
  simp only [Array.getElem?_modify]
  rw [if_neg (by omega)]

set_option maxHeartbeats 4000000 in
set_option maxRecDepth 100000 in
theorem fc_rules (w : World) : Calls Tryz.prog 124 #[] w fun e w' => e = .returned (.agg rulesA) ∧ Below w.heap.size w w' := by
  go_enter Tryz.func124, Tryz.ntmps124
  go_wp2_with (refine wpList_store_row rfl 186 (.tmp 0) (.tmp 28) rfl w.heap.size rulesA rfl rfl _ _ (new_block w _) (by kernel_rfl) (by kernel_rfl) (by kernel_rfl) ?_)
  exact bodyPost_ret (v := .agg rulesA) (results_cell_row Tryz.results124 _ _ w.heap.size _ rulesA (0, 0) _ rfl (setRow_heap _ _ _ _ _ _ (new_block w _)) Tryz.underlying186 rfl (by kernel_rfl)) rfl ⟨rfl, setRow_below w _ _⟩
end Go.Proofs.YtheaacliomfkoaaGreatDoor

/- Merged from: Chk Chk3. -/
/- What is wrong with a fact: the program's Check. -/
namespace Go.Proofs.YtheaacliomfkoaaGreatDoor
open Go.RowKit Go.Sort

/-- A function that tests a text. -/
structure TextOk (k : Int) (n : Nat) : Prop where
  enter : ∀ args w, (callFunc n args).run Tryz.prog w = .ok (.enter n args) w
  calls : ∀ f W, Fit f → f.ki = k → Tb W → Calls Tryz.prog n #[valF f] W fun e w' => e = .returned (.bool (textB k f.nu (ls f.tx))) ∧ Below W.heap.size W w'
theorem same_below {P : Program} {n : Nat} {args : Array Value} {W : World} {v : Value} (h : Calls P n args W fun e w' => e = .returned v ∧ W = w') : Calls P n args W fun e w' => e = .returned v ∧ Below W.heap.size W w' := h.mono fun _ _ ⟨he, hw⟩ => ⟨he, by subst hw; exact Below.refl _ _⟩
theorem grows_below {P : Program} {n : Nat} {args : Array Value} {W : World} {v : Value} (h : Calls P n args W fun e w' => e = .returned v ∧ Grows W w') : Calls P n args W fun e w' => e = .returned v ∧ Below W.heap.size W w' := h.mono fun _ _ ⟨he, hw⟩ => ⟨he, hw.below⟩
theorem text_1 : TextOk 1 160 := ⟨fun _ _ => by kernel_rfl, fun f W _ _ _ => fc_silent f W⟩
theorem text_2 : TextOk 2 160 := ⟨fun _ _ => by kernel_rfl, fun f W _ _ _ => fc_silent f W⟩
theorem text_3 : TextOk 3 160 := ⟨fun _ _ => by kernel_rfl, fun f W _ _ _ => fc_silent f W⟩
theorem text_4 : TextOk 4 161 := ⟨fun _ _ => by kernel_rfl, fun f W hf _ _ => fc_weekly f W hf⟩
theorem text_5 : TextOk 5 162 := ⟨fun _ _ => by kernel_rfl, fun f W hf _ hT => fc_cost f W hf hT⟩
theorem text_6 : TextOk 6 164 := ⟨fun _ _ => by kernel_rfl, fun f W hf _ hT => fc_night f W hf hT⟩
theorem text_7 : TextOk 7 160 := ⟨fun _ _ => by kernel_rfl, fun f W _ _ _ => fc_silent f W⟩
theorem text_8 : TextOk 8 160 := ⟨fun _ _ => by kernel_rfl, fun f W _ _ _ => fc_silent f W⟩
theorem text_9 : TextOk 9 160 := ⟨fun _ _ => by kernel_rfl, fun f W _ _ _ => fc_silent f W⟩
theorem text_10 : TextOk 10 160 := ⟨fun _ _ => by kernel_rfl, fun f W _ _ _ => fc_silent f W⟩
theorem text_11 : TextOk 11 155 := ⟨fun _ _ => by kernel_rfl, fun f W hf _ hT => fc_named f W hf hT⟩
theorem text_12 : TextOk 12 166 := ⟨fun _ _ => by kernel_rfl, fun f W hf _ hT => fc_attach f W hf hT⟩
theorem text_13 : TextOk 13 155 := ⟨fun _ _ => by kernel_rfl, fun f W hf _ hT => fc_named f W hf hT⟩
theorem text_14 : TextOk 14 156 := ⟨fun _ _ => by kernel_rfl, fun f W hf _ hT => fc_free f W hf hT⟩
theorem text_15 : TextOk 15 158 := ⟨fun _ _ => by kernel_rfl, fun f W hf _ _ => fc_told f W hf⟩
theorem text_16 : TextOk 16 160 := ⟨fun _ _ => by kernel_rfl, fun f W _ _ _ => fc_silent f W⟩
theorem text_17 : TextOk 17 160 := ⟨fun _ _ => by kernel_rfl, fun f W _ _ _ => fc_silent f W⟩
theorem text_18 : TextOk 18 160 := ⟨fun _ _ => by kernel_rfl, fun f W _ _ _ => fc_silent f W⟩
theorem lowhigh (k : Int) : -1125899906842624 ≤ lowN k ∧ lowN k ≤ 1 ∧ 0 ≤ highN k ∧ highN k ≤ 1125899906842624 := by
  unfold lowN highN
  refine ⟨?_, ?_, ?_, ?_⟩ <;> (repeat' split) <;> omega

set_option maxHeartbeats 2000000 in
theorem fc_days (f : Fa) (nm : ByteArray) (fi : Bool) (cf tf : Nat) (lo hi : Int) (w : World) :
    Calls Tryz.prog 125 #[valF f, .agg #[.string nm, .bool fi, .bool (daysB f.ki), .func (.func cf) #[] #[], .int .i64 lo, .int .i64 hi, .func (.func tf) #[] #[]]] w fun e w' => e = .returned (.int .i64 (daysE f)) ∧ Below w.heap.size w w' := by
  unfold valF
  have HG : Hid (∀ o p, Below w.heap.size w ((w.alloc o).alloc p)) := Lib.hid (fun o p => bTrans (bAlloc w o) (bAlloc _ p))
  obtain ⟨db, hdb⟩ : ∃ b, daysB f.ki = b := ⟨_, rfl⟩
  have HD : Hid (daysE f = if (f.ki = 18 ∧ f.fr ≠ 0) ∨ f.fr < -25567 ∨ 84005 < f.fr then 15 else if f.to ≠ 0 ∧ (db = false ∨ f.to ≤ f.fr) then 24 else if 84006 < f.to then 15 else 0) := Lib.hid (by unfold daysE; rw [hdb])
  rw [hdb]
  clear hdb
  by_cases hk : f.ki = 18
  · have bk : (f.ki == 18) = true := beq_iff_eq.2 hk
    have HK := Lib.hid hk
    clear hk
    by_cases hfr : f.fr = 0
    · have bf : (f.fr != 0) = false := by rw [hfr]; rfl
      have HF0 := Lib.hid hfr
      have hlo : ¬ f.fr < -25567 := by omega
      have hhi : ¬ 84005 < f.fr := by omega
      clear hfr
      have HN1 : Hid (¬ ((f.ki = 18 ∧ f.fr ≠ 0) ∨ f.fr < -25567 ∨ 84005 < f.fr)) := Lib.hid (fun h => h.elim (fun h => h.2 HF0.out) (fun h => h.elim hlo hhi))
      by_cases ht : f.to = 0
      · have bt : (f.to != 0) = false := by rw [ht]; rfl
        have HT0 := Lib.hid ht
        have hg : ¬ 84006 < f.to := by omega
        clear ht
        have L : Hid (daysE f = 0) := Lib.hid (by rw [HD.out]; rw [if_neg HN1.out, if_neg (fun h => h.1 HT0.out), if_neg (by omega)])
        go_enter Tryz.func125, Tryz.ntmps125
        go_wp2
        go_ret
        exact ⟨ret_i L.out.symm, HG.out _ _⟩
      have bt : (f.to != 0) = true := bne_iff_ne.2 ht
      have HT0 := Lib.hid ht
      clear ht
      cases db with
      | false =>
        have L : Hid (daysE f = 24) := Lib.hid (by rw [HD.out]; rw [if_neg HN1.out, if_pos ⟨HT0.out, .inl rfl⟩])
        go_enter Tryz.func125, Tryz.ntmps125
        go_wp2
        go_ret
        exact ⟨ret_i L.out.symm, HG.out _ _⟩
      | true =>
        by_cases hle : f.to ≤ f.fr
        · skip
          have L : Hid (daysE f = 24) := Lib.hid (by rw [HD.out]; rw [if_neg HN1.out, if_pos ⟨HT0.out, .inr hle⟩])
          go_enter Tryz.func125, Tryz.ntmps125
          go_wp2
          go_ret
          exact ⟨ret_i L.out.symm, HG.out _ _⟩
        by_cases hg : 84006 < f.to
        · skip
          have L : Hid (daysE f = 15) := Lib.hid (by rw [HD.out]; rw [if_neg HN1.out, if_neg (fun h => h.2.elim (fun h => by cases h) hle), if_pos hg])
          go_enter Tryz.func125, Tryz.ntmps125
          go_wp2
          go_ret
          exact ⟨ret_i L.out.symm, HG.out _ _⟩
        have L : Hid (daysE f = 0) := Lib.hid (by rw [HD.out]; rw [if_neg HN1.out, if_neg (fun h => h.2.elim (fun h => by cases h) hle), if_neg hg])
        go_enter Tryz.func125, Tryz.ntmps125
        go_wp2
        go_ret
        exact ⟨ret_i L.out.symm, HG.out _ _⟩
    · have bf : (f.fr != 0) = true := bne_iff_ne.2 hfr
      have HF0 := Lib.hid hfr
      clear hfr
      have L : Hid (daysE f = 15) := Lib.hid (by rw [HD.out]; rw [if_pos (.inl ⟨HK.out, HF0.out⟩)])
      go_enter Tryz.func125, Tryz.ntmps125
      go_wp2
      go_ret
      exact ⟨ret_i L.out.symm, HG.out _ _⟩
  · have bk : (f.ki == 18) = false := beq_eq_false_iff_ne.2 hk
    have HK := Lib.hid hk
    clear hk
    by_cases hlo : f.fr < -25567
    · skip
      have L : Hid (daysE f = 15) := Lib.hid (by rw [HD.out]; rw [if_pos (.inr (.inl hlo))])
      go_enter Tryz.func125, Tryz.ntmps125
      go_wp2
      go_ret
      exact ⟨ret_i L.out.symm, HG.out _ _⟩
    by_cases hhi : 84005 < f.fr
    · skip
      have L : Hid (daysE f = 15) := Lib.hid (by rw [HD.out]; rw [if_pos (.inr (.inr hhi))])
      go_enter Tryz.func125, Tryz.ntmps125
      go_wp2
      go_ret
      exact ⟨ret_i L.out.symm, HG.out _ _⟩
    have HN1 : Hid (¬ ((f.ki = 18 ∧ f.fr ≠ 0) ∨ f.fr < -25567 ∨ 84005 < f.fr)) := Lib.hid (fun h => h.elim (fun h => HK.out h.1) (fun h => h.elim hlo hhi))
    by_cases ht : f.to = 0
    · have bt : (f.to != 0) = false := by rw [ht]; rfl
      have HT0 := Lib.hid ht
      have hg : ¬ 84006 < f.to := by omega
      clear ht
      have L : Hid (daysE f = 0) := Lib.hid (by rw [HD.out]; rw [if_neg HN1.out, if_neg (fun h => h.1 HT0.out), if_neg (by omega)])
      go_enter Tryz.func125, Tryz.ntmps125
      go_wp2
      go_ret
      exact ⟨ret_i L.out.symm, HG.out _ _⟩
    have bt : (f.to != 0) = true := bne_iff_ne.2 ht
    have HT0 := Lib.hid ht
    clear ht
    cases db with
    | false =>
      have L : Hid (daysE f = 24) := Lib.hid (by rw [HD.out]; rw [if_neg HN1.out, if_pos ⟨HT0.out, .inl rfl⟩])
      go_enter Tryz.func125, Tryz.ntmps125
      go_wp2
      go_ret
      exact ⟨ret_i L.out.symm, HG.out _ _⟩
    | true =>
      by_cases hle : f.to ≤ f.fr
      · skip
        have L : Hid (daysE f = 24) := Lib.hid (by rw [HD.out]; rw [if_neg HN1.out, if_pos ⟨HT0.out, .inr hle⟩])
        go_enter Tryz.func125, Tryz.ntmps125
        go_wp2
        go_ret
        exact ⟨ret_i L.out.symm, HG.out _ _⟩
      by_cases hg : 84006 < f.to
      · skip
        have L : Hid (daysE f = 15) := Lib.hid (by rw [HD.out]; rw [if_neg HN1.out, if_neg (fun h => h.2.elim (fun h => by cases h) hle), if_pos hg])
        go_enter Tryz.func125, Tryz.ntmps125
        go_wp2
        go_ret
        exact ⟨ret_i L.out.symm, HG.out _ _⟩
      have L : Hid (daysE f = 0) := Lib.hid (by rw [HD.out]; rw [if_neg HN1.out, if_neg (fun h => h.2.elim (fun h => by cases h) hle), if_neg hg])
      go_enter Tryz.func125, Tryz.ntmps125
      go_wp2
      go_ret
      exact ⟨ret_i L.out.symm, HG.out _ _⟩
end Go.Proofs.YtheaacliomfkoaaGreatDoor

/- What is wrong with a fact: the program's Check, walked. -/
namespace Go.Proofs.YtheaacliomfkoaaGreatDoor
open Go.RowKit Go.Sort

theorem ruleNew {wa w4 : World} (h : Below wa.drew.heap.size wa.drew w4) (nm : ByteArray) (fi da : Bool) (cf tf : Nat) (lo hi : Int) :
    Bk w4.heap.size 185 #[.string nm, .bool fi, .bool da, .func (.func cf) #[] #[], .int .i64 lo, .int .i64 hi, .func (.func tf) #[] #[]] (w4.alloc (.cells #[.string nm, .bool fi, .bool da, .func (.func cf) #[] #[], .int .i64 lo, .int .i64 hi, .func (.func tf) #[] #[]] 185)) ∧ Below wa.heap.size wa (w4.alloc (.cells #[.string nm, .bool fi, .bool da, .func (.func cf) #[] #[], .int .i64 lo, .int .i64 hi, .func (.func tf) #[] #[]] 185)) :=
  ⟨Bk.new w4 _ _, bTrans (bDrew wa) (bTrans h (bAlloc w4 _))⟩
theorem rule7 {g B : Nat} {w0 w4 : World} (h : Bk g 185 #[.string ⟨#[]⟩, .bool false, .bool false, .nilFunc, .int .i64 0, .int .i64 0, .nilFunc] w4) (k : Below B w0 w4) (hB : B ≤ g) (nm : ByteArray) (fi da : Bool) (cf tf : Nat) (lo hi : Int) :
    Bk g 185 #[.string nm, .bool fi, .bool da, .func (.func cf) #[] #[], .int .i64 lo, .int .i64 hi, .func (.func tf) #[] #[]] (((((((w4.setCell ⟨g, 0, none⟩ (.string nm)).setCell ⟨g, 1, none⟩ (.bool fi)).setCell ⟨g, 2, none⟩ (.bool da)).setCell ⟨g, 3, none⟩ (.func (.func cf) #[] #[])).setCell ⟨g, 4, none⟩ (.int .i64 lo)).setCell ⟨g, 5, none⟩ (.int .i64 hi)).setCell ⟨g, 6, none⟩ (.func (.func tf) #[] #[])) ∧ Below B w0 (((((((w4.setCell ⟨g, 0, none⟩ (.string nm)).setCell ⟨g, 1, none⟩ (.bool fi)).setCell ⟨g, 2, none⟩ (.bool da)).setCell ⟨g, 3, none⟩ (.func (.func cf) #[] #[])).setCell ⟨g, 4, none⟩ (.int .i64 lo)).setCell ⟨g, 5, none⟩ (.int .i64 hi)).setCell ⟨g, 6, none⟩ (.func (.func tf) #[] #[])) := by
  refine ⟨?_, (((((((k.setCell (p := ⟨g, 0, none⟩) hB (.string nm)).setCell (p := ⟨g, 1, none⟩) hB (.bool fi)).setCell (p := ⟨g, 2, none⟩) hB (.bool da)).setCell (p := ⟨g, 3, none⟩) hB (.func (.func cf) #[] #[])).setCell (p := ⟨g, 4, none⟩) hB (.int .i64 lo)).setCell (p := ⟨g, 5, none⟩) hB (.int .i64 hi)).setCell (p := ⟨g, 6, none⟩) hB (.func (.func tf) #[] #[]))⟩
  have hz := (((((((h.set_ 0 (.string nm)).set_ 1 (.bool fi)).set_ 2 (.bool da)).set_ 3 (.func (.func cf) #[] #[])).set_ 4 (.int .i64 lo)).set_ 5 (.int .i64 hi)).set_ 6 (.func (.func tf) #[] #[]))
  exact hz

end Go.Proofs.YtheaacliomfkoaaGreatDoor

/- Merged from: Row9 St9 St10 St11 St12. -/
/- Rows of elements of several cells; one element appended. (From StK's head and Own, for this seat.) -/
namespace Go.Proofs.YtheaacliomfkoaaGreatDoor
open Go.RowKit Go.Sort

def wrMany (cur : Array Value) (o : Nat) : List Value → Array Value
  | [] => cur
  | v :: r => wrMany (cur.setIfInBounds o v) (o + 1) r
theorem wrMany_size : ∀ (vs : List Value) (cur : Array Value) (o : Nat), (wrMany cur o vs).size = cur.size
  | [], _, _ => rfl
  | v :: r, cur, o => by rw [wrMany, wrMany_size r]; simp
theorem wrMany_get : ∀ (vs : List Value) (cur : Array Value) (o t : Nat), o + vs.length ≤ cur.size → (wrMany cur o vs)[t]? = if o ≤ t ∧ t < o + vs.length then vs[t - o]? else cur[t]?
  | [], cur, o, t, _ => by rw [wrMany, if_neg (by rw [List.length_nil]; omega)]
  | v :: r, cur, o, t, h => by
    rw [List.length_cons] at h
    rw [wrMany, wrMany_get r _ _ _ (by simp; omega)]
    by_cases h1 : o + 1 ≤ t ∧ t < o + 1 + r.length
    · rw [if_pos h1, if_pos (by rw [List.length_cons]; omega), show t - o = (t - (o + 1)) + 1 by omega, List.getElem?_cons_succ]
    · rw [if_neg h1]
      by_cases h2 : t = o
      · subst h2
        rw [if_pos (by rw [List.length_cons]; omega), Nat.sub_self, List.getElem?_cons_zero, Array.getElem?_setIfInBounds, if_pos rfl, if_pos (by omega)]
      · rw [if_neg (by rw [List.length_cons]; omega), Array.getElem?_setIfInBounds, if_neg (by omega)]
theorem heap_setCells {g : Nat} {e : TypeId} : ∀ (vs : List Value) (w : World) (cur : Array Value) (o : Nat), w.heap[g]? = some (.cells cur e (0, 0)) → (w.setCells g o vs).heap[g]? = some (.cells (wrMany cur o vs) e (0, 0))
  | [], _, _, _, h => h
  | v :: r, w, cur, o, h => by
    rw [World.setCells, wrMany]
    refine heap_setCells r _ _ _ ?_
    simp [World.setCell, Array.getElem?_modify, h]
theorem gTrans {g : Nat} {a b c : World} (h : a.grownBy b (some g)) (k : b.grownBy c (some g)) : a.grownBy c (some g) :=
  ⟨k.os.trans h.os, k.tape.trans h.tape, k.output.trans h.output, Nat.le_trans h.size k.size, fun i hi hn => (k.block i (Nat.lt_of_lt_of_le hi h.size) hn).trans (h.block i hi hn)⟩
theorem gDrew {g : Nat} {a b : World} (h : a.grownBy b (some g)) : a.grownBy b.drew (some g) := ⟨h.os, h.tape, h.output, h.size, h.block⟩
theorem grown_setCells {g : Nat} : ∀ (vs : List Value) (w : World) (o : Nat), w.grownBy (w.setCells g o vs) (some g)
  | [], w, _ => World.grownBy.refl _ _
  | v :: r, w, o => by
    rw [World.setCells]
    have h1 : w.grownBy (w.setCell ⟨g, o, none⟩ v) (some g) := ⟨rfl, rfl, rfl, by simp [World.setCell], fun k _ hk => Below.heap_setCell _ _ _ _ (by simpa using hk)⟩
    exact gTrans h1 (grown_setCells r _ _)

/-- Block g: a row of l's elements, k cells each. -/
def Rw {α : Type} (enc : α → List Value) (k : Nat) (e : TypeId) (g cap : Nat) (l : List α) (w : World) : Prop :=
  ∃ cur, w.heap[g]? = some (.cells cur e (0, 0)) ∧ cur.size = cap * k ∧ l.length ≤ cap ∧ ∀ i x, l[i]? = some x → ∀ j u, (enc x)[j]? = some u → cur[i * k + j]? = some u

section
variable {α : Type} {enc : α → List Value} {k : Nat} {e : TypeId} {g cap : Nat} {l : List α} {w w' : World}
theorem Rw.cell (h : Rw enc k e g cap l w) {i : Nat} {x : α} (hx : l[i]? = some x) {j : Nat} {u : Value} (hu : (enc x)[j]? = some u) : w.cell? ⟨g, i * k + j, none⟩ = some u := by
  obtain ⟨cur, hc, _, _, hh⟩ := h
  have := hh i x hx j u hu
  simp [World.cell?, hc, this]
theorem Rw.frozen (h : Rw enc k e g cap l w) (o : Nat) : w.frozen? ⟨g, o, none⟩ = false := by
  obtain ⟨cur, hc, _⟩ := h
  simp [World.frozen?, hc]
theorem Rw.lt (h : Rw enc k e g cap l w) : g < w.heap.size := by
  obtain ⟨cur, hc, _⟩ := h
  exact (Array.getElem?_eq_some_iff.1 hc).1
theorem Rw.drewN (h : Rw enc k e g cap l w) (n : Nat) : Rw enc k e g cap l (w.drewN n) := h
theorem Rw.below {B : Nat} (h : Rw enc k e g cap l w) (hb : Below B w w') (hg : g < B) : Rw enc k e g cap l w' := by
  obtain ⟨cur, hc, hr⟩ := h
  exact ⟨cur, (hb.block g hg).trans hc, hr⟩
theorem Rw.set_ (hk : ∀ x, (enc x).length = k) (h : Rw enc k e g cap l w) {i : Nat} (hi : i < l.length) (y : α) : Rw enc k e g cap (l.set i y) (w.setCells g (i * k) (enc y)) := by
  obtain ⟨cur, hc, hs, hl, hh⟩ := h
  have hb : i * k + k ≤ cur.size := by
    have := Nat.mul_le_mul_right k (show i + 1 ≤ cap by omega)
    rw [Nat.add_mul, Nat.one_mul] at this; omega
  refine ⟨_, heap_setCells _ _ _ _ hc, by rw [wrMany_size, hs], by simpa using hl, fun t x hx j u hu => ?_⟩
  have hj : j < k := by rw [← hk x]; exact (List.getElem?_eq_some_iff.1 hu).1
  rw [wrMany_get _ _ _ _ (by rw [hk]; exact hb), hk]
  rw [List.getElem?_set] at hx
  by_cases ht : i = t
  · subst ht
    rw [if_pos rfl, if_pos hi] at hx
    cases hx
    rw [if_pos (by omega), Nat.add_sub_cancel_left]
    exact hu
  · rw [if_neg ht] at hx
    rw [if_neg]
    · exact hh t x hx j u hu
    · rintro ⟨h1, h2⟩
      rcases Nat.lt_or_gt_of_ne ht with h3 | h3
      · have := Nat.mul_le_mul_right k (show i + 1 ≤ t from h3)
        rw [Nat.add_mul, Nat.one_mul] at this; omega
      · have := Nat.mul_le_mul_right k (show t + 1 ≤ i from h3)
        rw [Nat.add_mul, Nat.one_mul] at this; omega
end
theorem get_mid {α : Type} (P Q : List α) (x : α) {n : Nat} (h : P.length = n) : (P ++ x :: Q)[n]? = some x := by subst h; simp
theorem set_mid {α : Type} (P Q : List α) (x y : α) {n : Nat} (h : P.length = n) : (P ++ x :: Q).set n y = P ++ y :: Q := by subst h; simp
/-- The cells of elements. -/
def rowOf {α : Type} (enc : α → List Value) (l : List α) : List Value := l.flatMap enc
section
variable {α : Type} {enc : α → List Value} {k : Nat}
theorem rowOf_append (l m : List α) : rowOf enc (l ++ m) = rowOf enc l ++ rowOf enc m := List.flatMap_append
theorem rowOf_one (x : α) : rowOf enc [x] = enc x := by simp [rowOf]
theorem rowOf_length (hk : ∀ x, (enc x).length = k) (l : List α) : (rowOf enc l).length = l.length * k := by
  induction l with
  | nil => simp [rowOf]
  | cons x l ih =>
    have : rowOf enc (x :: l) = enc x ++ rowOf enc l := rfl
    rw [this, List.length_append, ih, hk, List.length_cons, Nat.add_mul]; omega
theorem rowOf_get (hk : ∀ x, (enc x).length = k) : ∀ (l : List α) (i : Nat) (x : α), l[i]? = some x → ∀ (j : Nat) (u : Value), (enc x)[j]? = some u → (rowOf enc l)[i * k + j]? = some u := by
  intro l
  induction l with
  | nil => intro i x h; simp at h
  | cons y l ih =>
    intro i x h j u hu
    have e : rowOf enc (y :: l) = enc y ++ rowOf enc l := rfl
    have hj : j < k := by rw [← hk x]; exact (List.getElem?_eq_some_iff.1 hu).1
    cases i with
    | zero =>
      cases h
      rw [e, List.getElem?_append_left (by rw [hk]; omega), Nat.zero_mul, Nat.zero_add]; exact hu
    | succ i =>
      rw [List.getElem?_cons_succ] at h
      rw [e, List.getElem?_append_right (by rw [hk, Nat.add_mul]; omega), hk, Nat.add_mul, show i * k + 1 * k + j - k = i * k + j by omega]
      exact ih i x h j u hu
end

/-- A slice value that owns a row of l's elements. -/
def Own {α : Type} (enc : α → List Value) (k : Nat) (e : TypeId) (base : Nat) (v : Value) (l : List α) (w : World) : Prop := w.ownsRow base e k v l.length (rowOf enc l)
section
variable {α : Type} {enc : α → List Value} {k : Nat} {e : TypeId} {base : Nat} {v : Value} {l : List α} {w w' : World}
theorem Own.nil (w : World) : Own enc k e base (.slice none 0 0) [] w := World.ownsRow_nil w base e k
theorem Own.kept {r : Option Nat} (h : Own enc k e base v l w) (hg : w.grownBy w' r) (hr : v.ownBlock = none ∨ v.ownBlock ≠ r) : Own enc k e base v l w' := World.ownsRow.kept h hg hr
theorem Own.none_ (h : Own enc k e base v l w) (hg : w.grownBy w' none) : Own enc k e base v l w' := h.kept hg (by cases v.ownBlock <;> simp)
theorem Own.alloc (h : Own enc k e base v l w) (o : Obj) : Own enc k e base v l (w.alloc o) := World.ownsRow.alloc h o
theorem Own.lt (h : Own enc k e base v l w) {b : Nat} (hb : v.ownBlock = some b) : base ≤ b ∧ b < w.heap.size := World.ownsRow.lt h b hb
theorem Own.far (h : Own enc k e base v l w) {b : Nat} (hb : b < base) : some b ≠ v.ownBlock := fun he => by have := (h.lt he.symm).1; omega
/-- It is a row of its own, if there is an element. -/
theorem Own.row (hk : ∀ x, (enc x).length = k) (h : Own enc k e base v l w) (hl : l ≠ []) : ∃ g cap, v = .slice (some ⟨g, 0, none⟩) l.length cap ∧ base ≤ g ∧ Rw enc k e g cap l w := by
  rcases h.2 with ⟨_, h0⟩ | ⟨g, cap, cur, hv, hb, hg, hn, _, hs, ht⟩
  · exact absurd (List.length_eq_zero_iff.1 h0) hl
  · refine ⟨g, cap, hv, hb, cur, hg, hs, hn, fun i x hx j u hu => ?_⟩
    have h1 := rowOf_get hk l i x hx j u hu
    have h2 : (cur.toList.take (l.length * k))[i * k + j]? = some u := by rw [ht]; exact h1
    rw [List.getElem?_take] at h2
    split at h2
    · simpa using h2
    · cases h2
theorem Own.ne_ {g : Nat} {t : TypeId} {cs : Array Value} (h : Own enc k e base v l w) (hg : Bk g t cs w) (hne : e ≠ t) : some g ≠ v.ownBlock := by
  rcases h.2 with ⟨rfl, _⟩ | ⟨g', cap, cur, rfl, _, hh, _⟩
  · simp [Value.ownBlock]
  · intro he
    have : g = g' := by simpa [Value.ownBlock] using he
    subst this
    exact Bk.ne_ (t := e) hh hg hne rfl
end

/-- One element more. -/
theorem wpList_append_row {α : Type} {enc : α → List Value} {k : Nat} {P : Program} {ops : Array Oper} {rest : List Oper} {o : Oper} {a : Act} {w : World} {Q : Exit → Act → World → Prop}
    (hk : ∀ x, (enc x).length = k) (h1 : ∀ x, ∀ u ∈ enc x, u.oneCell' = true) (hgd : o.guard = none) (s x : Operand) (t : TypeId)
    (ho : o.op = .call { callee := .builtin .append, args := #[s, x], argTypes := #[t, t] })
    (base : Nat) (e : TypeId) (z : Value) (bytes : Nat) (ht : P.underlying t = some (.slice e)) (hi : (P.info? e).map (fun i => (i.zero, i.size, i.bytes)) = some (some z, k, bytes)) (hzs : z.cells.size = k) (hsz : 0 < k)
    (v : Value) (l : List α) (y : α) (hs : a.eval s = v) (hown : Own enc k e base v l w)
    (b c : Nat) (hx : a.eval x = .slice (some ⟨b, 0, none⟩) 1 c) (hnews : ∀ j u, (enc y)[j]? = some u → w.cell? ⟨b, j, none⟩ = some u)
    (hn : l.length + 1 ≤ 1000000000) (hb : bytes ≤ 1000) (hbase : base ≤ w.heap.size)
    (h : ∀ v' w', Own enc k e base v' (l ++ [y]) w' → w.grownBy w' v.ownBlock → wpList P ops Q rest (a.put o.dst v') w') : wpList P ops Q (o :: rest) a w := by
  obtain ⟨i, hi1, hz, hsize, hby⟩ := info_parts hi
  refine wpList_append_own w hgd s x t ho base e i z k bytes ht hi1 hz hsize hby hzs hsz v l.length (rowOf enc l) hs hown ⟨b, 0, none⟩ 1 c (enc y) hx (by rw [hk]; omega) (fun j u hu => ?_) (h1 y) (by simp only [maxLen]; omega) ?_ hbase (fun v' w' h2 h3 _ => h v' w' ?_ h3)
  · have := hnews j u hu
    unfold Addr.add
    split
    · rename_i h0; subst h0; exact this
    · simpa using this
  · exact Nat.le_trans (Nat.mul_le_mul hn hb) (by omega)
  · unfold Own
    rw [List.length_append, rowOf_append, rowOf_one]; exact h2
end Go.Proofs.YtheaacliomfkoaaGreatDoor

/- The facts of a view that are in force. -/
namespace Go.Proofs.YtheaacliomfkoaaGreatDoor
open Go.RowKit Go.Sort

end Go.Proofs.YtheaacliomfkoaaGreatDoor

/- The facts in force of a view. -/
namespace Go.Proofs.YtheaacliomfkoaaGreatDoor
open Go.RowKit Go.Sort

end Go.Proofs.YtheaacliomfkoaaGreatDoor

/- The facts in force of a person and a kind. -/
namespace Go.Proofs.YtheaacliomfkoaaGreatDoor
open Go.RowKit Go.Sort

end Go.Proofs.YtheaacliomfkoaaGreatDoor

/- The facts in force of a person and a kind: Facts. -/
namespace Go.Proofs.YtheaacliomfkoaaGreatDoor
open Go.RowKit Go.Sort

end Go.Proofs.YtheaacliomfkoaaGreatDoor

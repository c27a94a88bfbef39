/- Merged from: Abs Rul. -/
import Derived.Test.YtmngghglcgmkeaaGreatDoorWeek
import Derived.Test.YtmngghglcgmkeaaGreatDoorWght
import Derived.Test.YtmngghglcgmkeaaGreatDoorSh
import Derived.Laws.Rows
import Derived.Laws.Tables
/- Absences' codes; what a kind asks of a text. -/
namespace Go.Proofs.YtmngghglcgmkeaaGreatDoor
open Go.RowKit Go.Sort

def absL : List ByteArray := [⟨#[115, 105, 99, 107]⟩, ⟨#[108, 101, 97, 118, 101]⟩, ⟨#[117, 110, 112, 97, 105, 100]⟩, ⟨#[112, 97, 114, 101, 110, 116, 97, 108]⟩]
theorem ls_inj {a b : ByteArray} (h : ls a = ls b) : a = b := by
  cases a; cases b
  unfold ls at h
  simp only at h
  rw [Array.toList_inj.1 h]
theorem abs_eq (s : ByteArray) : Lib.containsS (absL.take 4) s = absenceB (ls s) := by
  rw [Bool.eq_iff_iff, Lib.containsS_iff]
  unfold absenceB
  rw [decide_eq_true_eq]
  constructor
  · intro h
    simp only [absL, List.take_succ_cons, List.take_zero, List.mem_cons, List.not_mem_nil, or_false] at h
    rcases h with rfl | rfl | rfl | rfl
    · exact .inl rfl
    · exact .inr (.inl rfl)
    · exact .inr (.inr (.inl rfl))
    · exact .inr (.inr (.inr rfl))
  · intro h
    simp only [absL, List.take_succ_cons, List.take_zero, List.mem_cons, List.not_mem_nil, or_false]
    rcases h with h | h | h | h
    · exact .inl (ls_inj h)
    · exact .inr (.inl (ls_inj h))
    · exact .inr (.inr (.inl (ls_inj h)))
    · exact .inr (.inr (.inr (ls_inj h)))
theorem fc_absence (s : ByteArray) (w : World) : Calls Tryz.prog 89 #[.string s] w fun e w' => e = .returned (.bool (absenceB (ls s))) ∧ Grows w w' := by
  have HC : Hid (∀ W b, (∀ j, j < absL.length → W.cell? ⟨b, 0 + j, none⟩ = some (.string (absL.getD j ByteArray.empty))) → Calls Tryz.prog 114 #[.slice (some ⟨b, 0, none⟩) 4 4, .string s] W fun e w' => e = .returned (.bool (absenceB (ls s))) ∧ W = w') := Lib.hid (fun W b h => by
    refine (Tryz.slices_Contains_string b 0 4 4 absL s W (Nat.le_refl 4) (by omega) h).mono ?_
    rintro e w1 ⟨rfl, rfl⟩
    exact ⟨by rw [abs_eq], rfl⟩)
  have HG : Hid (∀ o, Grows w (w.alloc o)) := Lib.hid (fun o => .of_alloc w o)
  have HN : Hid (∀ j, j < absL.length → (w.alloc (.cells #[.string ⟨#[115, 105, 99, 107]⟩, .string ⟨#[108, 101, 97, 118, 101]⟩, .string ⟨#[117, 110, 112, 97, 105, 100]⟩, .string ⟨#[112, 97, 114, 101, 110, 116, 97, 108]⟩] 9)).cell? ⟨w.heap.size, 0 + j, none⟩ = some (.string (absL.getD j ByteArray.empty))) := Lib.hid (fun j hj => by
    rw [Nat.zero_add]
    have h4 : absL.length = 4 := rfl
    have : j = 0 ∨ j = 1 ∨ j = 2 ∨ j = 3 := by omega
    rcases this with rfl | rfl | rfl | rfl <;> exact new_cell w _ _ _ rfl)
  go_enter Tryz.func89, Tryz.ntmps89
  go_wp2_with fail
  refine (HC.out _ _ HN.out).mono ?_
  rintro e w1 ⟨rfl, rfl⟩
  go_wp2
  go_ret
  exact ⟨rfl, HG.out _⟩
theorem fc_either (s : ByteArray) (w : World) (hs : s.size ≤ 1000000) : Calls Tryz.prog 77 #[.string s] w fun e w' => e = .returned (.bool (ls s == [] || nameB (ls s))) ∧ w = w' := by
  have HN := Lib.hid (fun W => fc_isName s W hs)
  cases he : (ls s == []) with
  | true =>
    have h1 : s.toList.isEmpty = true := by rw [isEmpty_ls]; exact he
    clear he
    go_enter Tryz.func77, Tryz.ntmps77
    go_wp2
    go_ret
    exact ⟨rfl, rfl⟩
  | false =>
    have h1 : s.toList.isEmpty = false := by rw [isEmpty_ls]; exact he
    clear he
    go_enter Tryz.func77, Tryz.ntmps77
    go_wp2_with fail
    refine (HN.out _).mono ?_
    rintro e w1 ⟨rfl, rfl⟩
    go_wp2
    go_ret
    exact ⟨rfl, rfl⟩
theorem fc_silent (f : Fa) (w : World) : Calls Tryz.prog 84 #[valF f] w fun e w' => e = .returned (.bool (ls f.tx == [])) ∧ Below w.heap.size w w' := by
  unfold valF
  have HG := Lib.hid (bAlloc w (.cells #[.int .u32 f.id, .int .u32 f.pe, .int .i64 f.ki, .int .i64 f.fr, .int .i64 f.to, .string f.co, .int .i64 f.nu, .string f.tx] 26))
  go_enter Tryz.func84, Tryz.ntmps84
  go_wp2
  go_ret
  exact ⟨ret_b (isEmpty_ls f.tx), HG.out⟩
theorem fc_named (f : Fa) (w : World) (hf : Fit f) (hT : Tb w) : Calls Tryz.prog 79 #[valF f] w fun e w' => e = .returned (.bool (nameB (ls f.tx))) ∧ Below w.heap.size w w' := by
  unfold valF
  obtain ⟨o, ho⟩ : ∃ o : Obj, (.cells #[.int .u32 f.id, .int .u32 f.pe, .int .i64 f.ki, .int .i64 f.fr, .int .i64 f.to, .string f.co, .int .i64 f.nu, .string f.tx] 26) = o := ⟨_, rfl⟩
  have HG := Lib.hid (ho ▸ bAlloc w o)
  have HN := Lib.hid (fun W => fc_isName f.tx W hf.tx)
  have HT : Hid (Tb (w.alloc (.cells #[.int .u32 f.id, .int .u32 f.pe, .int .i64 f.ki, .int .i64 f.fr, .int .i64 f.to, .string f.co, .int .i64 f.nu, .string f.tx] 26))) := Lib.hid (hT.alloc _)
  have hft := hf.tx
  clear ho hT
  go_enter Tryz.func79, Tryz.ntmps79
  go_wp2_with fail
  refine (HN.out _).mono ?_
  rintro e w1 ⟨rfl, hb⟩
  subst hb
  go_wp2
  go_ret
  exact ⟨rfl, bAlloc w _⟩
theorem fc_free (f : Fa) (w : World) (hf : Fit f) (hT : Tb w) : Calls Tryz.prog 80 #[valF f] w fun e w' => e = .returned (.bool (plainB (ls f.tx))) ∧ Below w.heap.size w w' := by
  unfold valF
  obtain ⟨o, ho⟩ : ∃ o : Obj, (.cells #[.int .u32 f.id, .int .u32 f.pe, .int .i64 f.ki, .int .i64 f.fr, .int .i64 f.to, .string f.co, .int .i64 f.nu, .string f.tx] 26) = o := ⟨_, rfl⟩
  have HG := Lib.hid (ho ▸ bAlloc w o)
  have HN := Lib.hid (fun W => fc_plain f.tx W hf.tx)
  have HT : Hid (Tb (w.alloc (.cells #[.int .u32 f.id, .int .u32 f.pe, .int .i64 f.ki, .int .i64 f.fr, .int .i64 f.to, .string f.co, .int .i64 f.nu, .string f.tx] 26))) := Lib.hid (hT.alloc _)
  have hft := hf.tx
  clear ho hT
  go_enter Tryz.func80, Tryz.ntmps80
  go_wp2_with fail
  refine (HN.out _).mono ?_
  rintro e w1 ⟨rfl, hb⟩
  subst hb
  go_wp2
  go_ret
  exact ⟨rfl, bAlloc w _⟩
theorem fc_cost (f : Fa) (w : World) (hf : Fit f) (hT : Tb w) : Calls Tryz.prog 86 #[valF f] w fun e w' => e = .returned (.bool (weightsB (ls f.tx))) ∧ Below w.heap.size w w' := by
  unfold valF
  obtain ⟨o, ho⟩ : ∃ o : Obj, (.cells #[.int .u32 f.id, .int .u32 f.pe, .int .i64 f.ki, .int .i64 f.fr, .int .i64 f.to, .string f.co, .int .i64 f.nu, .string f.tx] 26) = o := ⟨_, rfl⟩
  have HG := Lib.hid (ho ▸ bAlloc w o)
  have HN := Lib.hid (fun W hT => fc_weights f.tx W hf.tx hT)
  have HT : Hid (Tb (w.alloc (.cells #[.int .u32 f.id, .int .u32 f.pe, .int .i64 f.ki, .int .i64 f.fr, .int .i64 f.to, .string f.co, .int .i64 f.nu, .string f.tx] 26))) := Lib.hid (hT.alloc _)
  have hft := hf.tx
  clear ho hT
  go_enter Tryz.func86, Tryz.ntmps86
  go_wp2_with fail
  refine (HN.out _ HT.out).mono ?_
  rintro e w1 ⟨rfl, hb⟩
  
  go_wp2
  go_ret
  exact ⟨rfl, bTrans (bAlloc w _) hb⟩
theorem fc_attach (f : Fa) (w : World) (hf : Fit f) (hT : Tb w) : Calls Tryz.prog 90 #[valF f] w fun e w' => e = .returned (.bool (orderB (ls f.tx))) ∧ Below w.heap.size w w' := by
  unfold valF
  obtain ⟨o, ho⟩ : ∃ o : Obj, (.cells #[.int .u32 f.id, .int .u32 f.pe, .int .i64 f.ki, .int .i64 f.fr, .int .i64 f.to, .string f.co, .int .i64 f.nu, .string f.tx] 26) = o := ⟨_, rfl⟩
  have HG := Lib.hid (ho ▸ bAlloc w o)
  have HN := Lib.hid (fun W hT => fc_order f.tx W hf.tx hT)
  have HT : Hid (Tb (w.alloc (.cells #[.int .u32 f.id, .int .u32 f.pe, .int .i64 f.ki, .int .i64 f.fr, .int .i64 f.to, .string f.co, .int .i64 f.nu, .string f.tx] 26))) := Lib.hid (hT.alloc _)
  have hft := hf.tx
  clear ho hT
  go_enter Tryz.func90, Tryz.ntmps90
  go_wp2_with fail
  refine (HN.out _ HT.out).mono ?_
  rintro e w1 ⟨rfl, hb⟩
  
  go_wp2
  go_ret
  exact ⟨rfl, bTrans (bAlloc w _) hb⟩
theorem fc_told (f : Fa) (w : World) (hf : Fit f) : Calls Tryz.prog 82 #[valF f] w fun e w' => e = .returned (.bool (!(ls f.tx == []) && plainB (ls f.tx))) ∧ Below w.heap.size w w' := by
  unfold valF
  have HN := Lib.hid (fun W => fc_plain f.tx W hf.tx)
  cases he : (ls f.tx == []) with
  | true =>
    have h1 : f.tx.toList.isEmpty = true := by rw [isEmpty_ls]; exact he
    clear he
    go_enter Tryz.func82, Tryz.ntmps82
    go_wp2
    go_ret
    exact ⟨rfl, bAlloc w _⟩
  | false =>
    have h1 : f.tx.toList.isEmpty = false := by rw [isEmpty_ls]; exact he
    clear he
    go_enter Tryz.func82, Tryz.ntmps82
    go_wp2_with fail
    refine (HN.out _).mono ?_
    rintro e w1 ⟨rfl, rfl⟩
    go_wp2
    go_ret
    exact ⟨rfl, bAlloc w _⟩
theorem fc_weekly (f : Fa) (w : World) (hf : Fit f) : Calls Tryz.prog 85 #[valF f] w fun e w' => e = .returned (.bool (decide (weekE (ls f.tx) = 0))) ∧ Below w.heap.size w w' := by
  unfold valF
  have HN := Lib.hid (fun W => wk_Parse f.tx W hf.tx)
  obtain ⟨e0, he0⟩ : ∃ e, weekE (ls f.tx) = e := ⟨_, rfl⟩
  unfold weekR w7 at HN
  rw [he0]
  rw [he0] at HN
  clear he0
  go_enter Tryz.func85, Tryz.ntmps85
  go_wp2_with fail
  refine (HN.out _).mono ?_
  rintro e w1 ⟨rfl, hb⟩
  have HB := Lib.hid (bTrans (bAlloc w _) hb)
  by_cases h : e0 = 0
  · subst h
    go_wp2
    go_ret
    exact ⟨rfl, bTrans HB.out (bAlloc _ _)⟩
  · have h1 : (e0 == 0) = false := beq_eq_false_iff_ne.2 h
    have HF : Hid (decide (e0 = 0) = false) := Lib.hid (decide_eq_false h)
    clear h
    go_wp2
    go_ret
    exact ⟨ret_b HF.out.symm, bTrans HB.out (bAlloc _ _)⟩
theorem fc_night (f : Fa) (w : World) (hf : Fit f) (hT : Tb w) : Calls Tryz.prog 88 #[valF f] w fun e w' => e = .returned (.bool (ls f.tx == [] || (tensO (ls f.tx) f.nu.toNat).isSome)) ∧ Below w.heap.size w w' := by
  unfold valF
  have hn := hf.nu
  have HN : Hid (∀ W x, Tb W → x = ((f.nu.toNat : Nat) : Int) → Calls Tryz.prog 113 #[.string f.tx, .int .u64 x] W fun e w' => TensIs (ls f.tx) f.nu.toNat e ∧ Below W.heap.size W w') := Lib.hid (fun W x hT hx => by subst hx; exact fc_tens f.tx f.nu.toNat W (by omega) hf.tx hT)
  have HT : Hid (Tb (w.alloc (.cells #[.int .u32 f.id, .int .u32 f.pe, .int .i64 f.ki, .int .i64 f.fr, .int .i64 f.to, .string f.co, .int .i64 f.nu, .string f.tx] 26))) := Lib.hid (hT.alloc _)
  clear hT
  by_cases h0 : f.nu ≤ 0
  · have hmx : max f.nu 0 = 0 := by omega
    go_enter Tryz.func88, Tryz.ntmps88
    go_wp2_with fail
    refine (HN.out _ _ HT.out (by omega)).mono ?_
    rintro e w1 ⟨⟨v, rfl, _⟩, hb⟩
    have C7 : w1.cell? ⟨w.heap.size, 7, none⟩ = some (.string f.tx) := bCell hb (new_cell w _ _ _ rfl)
    have HB := Lib.hid (bTrans (bAlloc w _) hb)
    clear hb
    cases he : (ls f.tx == []) with
    | true =>
      have h1 : f.tx.toList.isEmpty = true := by rw [isEmpty_ls]; exact he
      have HF : Hid ((ls f.tx == [] || (tensO (ls f.tx) f.nu.toNat).isSome) = true) := Lib.hid (by rw [he]; rfl)
      clear he
      go_wp2
      go_ret
      exact ⟨ret_b HF.out.symm, HB.out⟩
    | false =>
      have h1 : f.tx.toList.isEmpty = false := by rw [isEmpty_ls]; exact he
      have HF : Hid ((ls f.tx == [] || (tensO (ls f.tx) f.nu.toNat).isSome) = (tensO (ls f.tx) f.nu.toNat).isSome) := Lib.hid (by rw [he]; rfl)
      clear he
      go_wp2
      go_ret
      exact ⟨ret_b HF.out.symm, HB.out⟩
  · have hmx : max f.nu 0 = f.nu := by omega
    go_enter Tryz.func88, Tryz.ntmps88
    go_wp2_with fail
    refine (HN.out _ _ HT.out (by omega)).mono ?_
    rintro e w1 ⟨⟨v, rfl, _⟩, hb⟩
    have C7 : w1.cell? ⟨w.heap.size, 7, none⟩ = some (.string f.tx) := bCell hb (new_cell w _ _ _ rfl)
    have HB := Lib.hid (bTrans (bAlloc w _) hb)
    clear hb
    cases he : (ls f.tx == []) with
    | true =>
      have h1 : f.tx.toList.isEmpty = true := by rw [isEmpty_ls]; exact he
      have HF : Hid ((ls f.tx == [] || (tensO (ls f.tx) f.nu.toNat).isSome) = true) := Lib.hid (by rw [he]; rfl)
      clear he
      go_wp2
      go_ret
      exact ⟨ret_b HF.out.symm, HB.out⟩
    | false =>
      have h1 : f.tx.toList.isEmpty = false := by rw [isEmpty_ls]; exact he
      have HF : Hid ((ls f.tx == [] || (tensO (ls f.tx) f.nu.toNat).isSome) = (tensO (ls f.tx) f.nu.toNat).isSome) := Lib.hid (by rw [he]; rfl)
      clear he
      go_wp2
      go_ret
      exact ⟨ret_b HF.out.symm, HB.out⟩
end Go.Proofs.YtmngghglcgmkeaaGreatDoor

/- The rules of the kinds. -/
namespace Go.Proofs.YtmngghglcgmkeaaGreatDoor
open Go.RowKit Go.Sort

/-- A kind's rule: its name, the firm's?, days?, its code, least, most, its text. -/
def ruleV (k : Int) : Array Value :=
  if k = 1 then #[.string ⟨#[101, 109, 112, 108, 111, 121]⟩, .bool false, .bool true, .func (.func 83) #[] #[], .int .i64 0, .int .i64 1, .func (.func 84) #[] #[]]
  else if k = 2 then #[.string ⟨#[115, 97, 108, 97, 114, 121]⟩, .bool false, .bool true, .func (.func 83) #[] #[], .int .i64 0, .int .i64 1125899906842624, .func (.func 84) #[] #[]]
  else if k = 3 then #[.string ⟨#[112, 97, 114, 116]⟩, .bool false, .bool true, .func (.func 83) #[] #[], .int .i64 0, .int .i64 1000000, .func (.func 84) #[] #[]]
  else if k = 4 then #[.string ⟨#[104, 111, 117, 114, 115]⟩, .bool false, .bool true, .func (.func 83) #[] #[], .int .i64 0, .int .i64 0, .func (.func 85) #[] #[]]
  else if k = 5 then #[.string ⟨#[99, 111, 115, 116]⟩, .bool false, .bool true, .func (.func 83) #[] #[], .int .i64 0, .int .i64 0, .func (.func 86) #[] #[]]
  else if k = 6 then #[.string ⟨#[115, 104, 101, 101, 116]⟩, .bool false, .bool false, .func (.func 77) #[] #[], .int .i64 0, .int .i64 1440, .func (.func 88) #[] #[]]
  else if k = 7 then #[.string ⟨#[97, 98, 115, 101, 110, 116]⟩, .bool false, .bool true, .func (.func 89) #[] #[], .int .i64 0, .int .i64 1000000, .func (.func 84) #[] #[]]
  else if k = 8 then #[.string ⟨#[98, 111, 110, 117, 115]⟩, .bool false, .bool false, .func (.func 78) #[] #[], .int .i64 (-1125899906842624), .int .i64 1125899906842624, .func (.func 84) #[] #[]]
  else if k = 9 then #[.string ⟨#[101, 110, 114, 111, 108]⟩, .bool false, .bool true, .func (.func 78) #[] #[], .int .i64 0, .int .i64 1125899906842624, .func (.func 84) #[] #[]]
  else if k = 10 then #[.string ⟨#[100, 101, 100, 117, 99, 116]⟩, .bool false, .bool true, .func (.func 78) #[] #[], .int .i64 0, .int .i64 1125899906842624, .func (.func 84) #[] #[]]
  else if k = 11 then #[.string ⟨#[99, 97, 114, 100]⟩, .bool false, .bool true, .func (.func 83) #[] #[], .int .i64 0, .int .i64 1125899906842624, .func (.func 79) #[] #[]]
  else if k = 12 then #[.string ⟨#[97, 116, 116, 97, 99, 104]⟩, .bool false, .bool true, .func (.func 78) #[] #[], .int .i64 0, .int .i64 1125899906842624, .func (.func 90) #[] #[]]
  else if k = 13 then #[.string ⟨#[98, 97, 110, 107]⟩, .bool false, .bool true, .func (.func 83) #[] #[], .int .i64 0, .int .i64 0, .func (.func 79) #[] #[]]
  else if k = 14 then #[.string ⟨#[114, 117, 108, 101]⟩, .bool true, .bool true, .func (.func 78) #[] #[], .int .i64 (-1125899906842624), .int .i64 1125899906842624, .func (.func 80) #[] #[]]
  else if k = 15 then #[.string ⟨#[101, 108, 101, 109, 101, 110, 116]⟩, .bool true, .bool true, .func (.func 78) #[] #[], .int .i64 0, .int .i64 0, .func (.func 82) #[] #[]]
  else if k = 16 then #[.string ⟨#[104, 111, 108, 105, 100, 97, 121]⟩, .bool true, .bool false, .func (.func 83) #[] #[], .int .i64 0, .int .i64 0, .func (.func 84) #[] #[]]
  else if k = 17 then #[.string ⟨#[103, 114, 97, 110, 116]⟩, .bool false, .bool false, .func (.func 83) #[] #[], .int .i64 0, .int .i64 100000, .func (.func 84) #[] #[]]
  else if k = 18 then #[.string ⟨#[99, 97, 110, 99, 101, 108]⟩, .bool true, .bool false, .func (.func 83) #[] #[], .int .i64 1, .int .i64 4096, .func (.func 84) #[] #[]]
  else #[.string ⟨#[]⟩, .bool false, .bool false, .nilFunc, .int .i64 0, .int .i64 0, .nilFunc]
def rulesA : Array Value := #[.string ⟨#[]⟩, .bool false, .bool false, .nilFunc, .int .i64 0, .int .i64 0, .nilFunc, .string ⟨#[101, 109, 112, 108, 111, 121]⟩, .bool false, .bool true, .func (.func 83) #[] #[], .int .i64 0, .int .i64 1, .func (.func 84) #[] #[], .string ⟨#[115, 97, 108, 97, 114, 121]⟩, .bool false, .bool true, .func (.func 83) #[] #[], .int .i64 0, .int .i64 1125899906842624, .func (.func 84) #[] #[], .string ⟨#[112, 97, 114, 116]⟩, .bool false, .bool true, .func (.func 83) #[] #[], .int .i64 0, .int .i64 1000000, .func (.func 84) #[] #[], .string ⟨#[104, 111, 117, 114, 115]⟩, .bool false, .bool true, .func (.func 83) #[] #[], .int .i64 0, .int .i64 0, .func (.func 85) #[] #[], .string ⟨#[99, 111, 115, 116]⟩, .bool false, .bool true, .func (.func 83) #[] #[], .int .i64 0, .int .i64 0, .func (.func 86) #[] #[], .string ⟨#[115, 104, 101, 101, 116]⟩, .bool false, .bool false, .func (.func 77) #[] #[], .int .i64 0, .int .i64 1440, .func (.func 88) #[] #[], .string ⟨#[97, 98, 115, 101, 110, 116]⟩, .bool false, .bool true, .func (.func 89) #[] #[], .int .i64 0, .int .i64 1000000, .func (.func 84) #[] #[], .string ⟨#[98, 111, 110, 117, 115]⟩, .bool false, .bool false, .func (.func 78) #[] #[], .int .i64 (-1125899906842624), .int .i64 1125899906842624, .func (.func 84) #[] #[], .string ⟨#[101, 110, 114, 111, 108]⟩, .bool false, .bool true, .func (.func 78) #[] #[], .int .i64 0, .int .i64 1125899906842624, .func (.func 84) #[] #[], .string ⟨#[100, 101, 100, 117, 99, 116]⟩, .bool false, .bool true, .func (.func 78) #[] #[], .int .i64 0, .int .i64 1125899906842624, .func (.func 84) #[] #[], .string ⟨#[99, 97, 114, 100]⟩, .bool false, .bool true, .func (.func 83) #[] #[], .int .i64 0, .int .i64 1125899906842624, .func (.func 79) #[] #[], .string ⟨#[97, 116, 116, 97, 99, 104]⟩, .bool false, .bool true, .func (.func 78) #[] #[], .int .i64 0, .int .i64 1125899906842624, .func (.func 90) #[] #[], .string ⟨#[98, 97, 110, 107]⟩, .bool false, .bool true, .func (.func 83) #[] #[], .int .i64 0, .int .i64 0, .func (.func 79) #[] #[], .string ⟨#[114, 117, 108, 101]⟩, .bool true, .bool true, .func (.func 78) #[] #[], .int .i64 (-1125899906842624), .int .i64 1125899906842624, .func (.func 80) #[] #[], .string ⟨#[101, 108, 101, 109, 101, 110, 116]⟩, .bool true, .bool true, .func (.func 78) #[] #[], .int .i64 0, .int .i64 0, .func (.func 82) #[] #[], .string ⟨#[104, 111, 108, 105, 100, 97, 121]⟩, .bool true, .bool false, .func (.func 83) #[] #[], .int .i64 0, .int .i64 0, .func (.func 84) #[] #[], .string ⟨#[103, 114, 97, 110, 116]⟩, .bool false, .bool false, .func (.func 83) #[] #[], .int .i64 0, .int .i64 100000, .func (.func 84) #[] #[], .string ⟨#[99, 97, 110, 99, 101, 108]⟩, .bool true, .bool false, .func (.func 83) #[] #[], .int .i64 1, .int .i64 4096, .func (.func 84) #[] #[]]
theorem rules_at (k : Int) (h1 : 1 ≤ k) (h2 : k ≤ 18) (w : World) : (Instr.index 115 (.agg rulesA) (.int .i64 k)).run Tryz.prog w = .ok (.agg (ruleV k)) w := by
  have : k = 1 ∨ k = 2 ∨ k = 3 ∨ k = 4 ∨ k = 5 ∨ k = 6 ∨ k = 7 ∨ k = 8 ∨ k = 9 ∨ k = 10 ∨ k = 11 ∨ k = 12 ∨ k = 13 ∨ k = 14 ∨ k = 15 ∨ k = 16 ∨ k = 17 ∨ k = 18 := by omega
  rcases this with rfl | rfl | rfl | rfl | rfl | rfl | rfl | rfl | rfl | rfl | rfl | rfl | rfl | rfl | rfl | rfl | rfl | rfl <;> (show Sem.run _ _ _ = _; kernel_rfl)
theorem setRow_below (w : World) (o : Obj) (cs : Array Value) : Below w.heap.size w ((w.alloc o).setRow w.heap.size cs) := by
  have h := bAlloc w o
  refine ⟨h.os, h.tape, h.output, by simp [World.setRow], fun k hk => ?_⟩
  rw [← h.block k hk]
  unfold World.setRow
  simp only [Array.getElem?_modify]
  rw [if_neg (by omega)]

set_option maxHeartbeats 4000000 in
set_option maxRecDepth 100000 in
theorem fc_rules (w : World) : Calls Tryz.prog 53 #[] w fun e w' => e = .returned (.agg rulesA) ∧ Below w.heap.size w w' := by
  go_enter Tryz.func53, Tryz.ntmps53
  go_wp2_with (refine wpList_store_row rfl 115 (.tmp 0) (.tmp 28) rfl w.heap.size rulesA rfl rfl _ _ (new_block w _) (by kernel_rfl) (by kernel_rfl) (by kernel_rfl) ?_)
  exact bodyPost_ret (v := .agg rulesA) (results_cell_row Tryz.results53 _ _ w.heap.size _ rulesA (0, 0) _ rfl (setRow_heap _ _ _ _ _ _ (new_block w _)) Tryz.underlying115 rfl (by kernel_rfl)) rfl ⟨rfl, setRow_below w _ _⟩
end Go.Proofs.YtmngghglcgmkeaaGreatDoor

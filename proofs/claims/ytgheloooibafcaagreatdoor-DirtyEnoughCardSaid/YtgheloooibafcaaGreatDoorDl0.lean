import Derived.Test.YtgheloooibafcaaGreatDoorBase
/- Helpers of the laws of layer 32: small, of. -/
namespace Go.Proofs.YtgheloooibafcaaGreatDoor
open Go.RowKit Go.Sort

def smallF (f : Fa) : Bool := decide ((f.co.size : Int) ≤ 300 ∧ (f.tx.size : Int) ≤ 300)
/-- Are facts few, and short? -/
def smallB (L : List Fa) : Bool := L.all smallF && decide ((L.length : Int) ≤ 40)
theorem all_false {α : Type} {p : α → Bool} {L : List α} {k : Nat} {f : α} (h : L[k]? = some f) (hf : p f = false) : L.all p = false := by
  rw [Bool.eq_false_iff]
  intro h2
  have := List.all_eq_true.1 h2 f (List.mem_of_getElem? h)
  rw [hf] at this; cases this
set_option maxHeartbeats 2000000 in
set_option maxRecDepth 10000 in
theorem la_small (L : List Fa) (A : Option Addr) (cap : Nat) (w : World) (hn : L.length ≤ 9223372036854775807) (hs : SlF w A L) :
    Calls Tryz.prog 16 #[.slice A L.length cap] w fun e w' => e = .returned (.bool (smallB L)) ∧ Below w.heap.size w w' := by
  have HS := Lib.hid hs
  clear hs
  go_enter Tryz.func16, Tryz.ntmps16
  go_wp2
  go_loopw [3] (fun iv wr => ∃ k : Nat, k ≤ L.length ∧ k ≤ 40 ∧ iv = .int .i64 k ∧ Hid ((L.take k).all smallF = true) ∧ Hid (Below w.heap.size w wr)) (fun iv _ => L.length - (intOf iv).toNat)
  case atStart => exact ⟨0, Nat.zero_le _, Nat.zero_le _, rfl, Lib.hid rfl, Lib.hid (Below.refl _ _)⟩
  case round =>
    obtain ⟨k, hk, hk4, rfl, HP, HB⟩ := hrel
    by_cases hlt : k < L.length
    · by_cases h40 : k < 40
      · obtain ⟨b, off, rfl, hbl, hat⟩ := SlF.open_ HS.out (by intro h; simp [h] at hlt)
        obtain ⟨f, hx⟩ : ∃ x, L[k]? = some x := ⟨_, List.getElem?_eq_getElem hlt⟩
        have hat1 := (hat k f hx).below HB.out
        have C5 := hat1.c5
        have C7 := hat1.c7
        have HX := Lib.hid hx
        clear hat hat1 hx
        by_cases h1 : (300 : Int) < (f.co.size : Int)
        · have HF : Hid (smallB L = false) := Lib.hid (by unfold smallB; rw [all_false HX.out (decide_eq_false (by omega)), Bool.false_and])
          have hd : decide ((300 : Int) < (f.co.size : Int)) = true := decide_eq_true h1
          go_wp2
          go_ret
          exact ⟨ret_b HF.out.symm, HB.out⟩
        · have hd : decide ((300 : Int) < (f.co.size : Int)) = false := decide_eq_false h1
          by_cases h2 : (300 : Int) < (f.tx.size : Int)
          · have HF : Hid (smallB L = false) := Lib.hid (by unfold smallB; rw [all_false HX.out (decide_eq_false (by omega)), Bool.false_and])
            have hd2 : decide ((300 : Int) < (f.tx.size : Int)) = true := decide_eq_true h2
            go_wp2
            go_ret
            exact ⟨ret_b HF.out.symm, HB.out⟩
          · have hd2 : decide ((300 : Int) < (f.tx.size : Int)) = false := decide_eq_false h2
            have HN : Hid ((L.take (k + 1)).all smallF = true) := Lib.hid (all_more HP.out HX.out (decide_eq_true (by omega)))
            go_wp2
            exact ⟨⟨k + 1, by omega, by omega, by go_num, HN, HB⟩, by simp [intOf]; omega⟩
      · have HF : Hid (smallB L = decide ((L.length : Int) ≤ 40)) := Lib.hid (by unfold smallB; rw [decide_eq_false (by omega), Bool.and_false])
        have hg : ¬ ((k : Int) < 40) := by omega
        go_wp2
        go_ret
        exact ⟨ret_b HF.out.symm, HB.out⟩
    · obtain rfl : k = L.length := by omega
      have HF : Hid (smallB L = decide ((L.length : Int) ≤ 40)) := Lib.hid (by unfold smallB; have := HP.out; rw [List.take_length] at this; rw [this, Bool.true_and])
      go_wp2
      go_ret
      exact ⟨ret_b HF.out.symm, HB.out⟩
theorem small_all {L : List Fa} (h : smallB L = true) : (∀ f ∈ L, smallF f = true) ∧ L.length ≤ 40 := by
  unfold smallB at h
  rw [Bool.and_eq_true, List.all_eq_true, decide_eq_true_eq] at h
  exact ⟨h.1, by omega⟩
set_option maxRecDepth 10000 in
theorem la_of32 (f : Fa) (w : World) : Calls Tryz.prog 21 #[.agg (FA f)] w fun e w' => e = .returned (.agg (FA f)) ∧ Below w.heap.size w w' := by
  have HB := Lib.hid (bTrans (bAlloc w (.cells (FA f) 39)) (bAlloc _ (.cells (FA f) 37)))
  unfold FA at HB ⊢
  go_enter Tryz.func21, Tryz.ntmps21
  go_wp2
  exact bodyPost_ret (v := .agg #[.int .u32 f.id, .int .u32 f.pe, .int .i64 f.ki, .int .i64 f.fr, .int .i64 f.to, .string f.co, .int .i64 f.nu, .string f.tx]) (by simp [results, Tryz.results21, go_sem]) rfl ⟨rfl, HB.out⟩
end Go.Proofs.YtgheloooibafcaaGreatDoor

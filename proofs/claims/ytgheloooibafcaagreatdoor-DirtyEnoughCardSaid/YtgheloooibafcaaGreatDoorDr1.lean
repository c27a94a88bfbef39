import Derived.Test.YtgheloooibafcaaGreatDoorDys
import Derived.BigQuiet
/- The document's First and Since; has. -/
namespace Go.Proofs.YtgheloooibafcaaGreatDoor
open Go.RowKit Go.Sort

theorem r4i_In (d : Int) (w : World) : Calls Tryz.prog 61 #[.int .i64 d] w fun e w' => e = .returned (.bool (decide (-25567 ≤ d ∧ d ≤ 84005))) ∧ w = w' := by
  by_cases h1 : -25567 ≤ d
  · by_cases h2 : d ≤ 84005
    · have d1 : decide ((-25567 : Int) ≤ d) = true := decide_eq_true h1
      have d2 : decide (d ≤ (84005 : Int)) = true := decide_eq_true h2
      rw [decide_eq_true (And.intro h1 h2)]
      go_enter Tryz.func61, Tryz.ntmps61
      go_wp2
      go_ret
      exact ⟨rfl, rfl⟩
    · have d1 : decide ((-25567 : Int) ≤ d) = true := decide_eq_true h1
      have d2 : decide (d ≤ (84005 : Int)) = false := decide_eq_false h2
      rw [decide_eq_false (fun h => h2 h.2)]
      go_enter Tryz.func61, Tryz.ntmps61
      go_wp2
      go_ret
      exact ⟨rfl, rfl⟩
  · have d1 : decide ((-25567 : Int) ≤ d) = false := decide_eq_false h1
    rw [decide_eq_false (fun h => h1 h.1)]
    go_enter Tryz.func61, Tryz.ntmps61
    go_wp2
    go_ret
    exact ⟨rfl, rfl⟩
theorem r4_Weekday (d : Int) (w : World) (h1 : -25567 ≤ d) (h2 : d ≤ 84005) : Calls Tryz.prog 62 #[.int .i64 d] w fun e w' => e = .returned (.int .i64 ((d + 25567) % 7)) ∧ w' = w := by
  go_enter Tryz.func62, Tryz.ntmps62
  go_wp2
  go_ret
  exact ⟨ret_i (by omega), rfl⟩
set_option maxRecDepth 10000 in
theorem r32_First (f : Fa) (w : World) : Calls Tryz.prog 32 #[.agg (FA f)] w fun e w' => e = .returned (.int .i64 (firstF f)) ∧ Below w.heap.size w w' := by
  obtain ⟨fb, hfb⟩ : ∃ x, w.heap.size = x := ⟨_, rfl⟩
  obtain ⟨w2, hw2⟩ : ∃ x, w.alloc (.cells (FA f) 37) = x := ⟨_, rfl⟩
  have HB : Hid (Below w.heap.size w w2) := Lib.hid (by rw [← hw2]; exact bAlloc _ _)
  have HK : Hid (Bk fb 37 (FA f) w2) := Lib.hid (by rw [← hw2, ← hfb]; exact Bk.new _ _ _)
  have HIN := Lib.hid (fun W => r4i_In f.fr W)
  have HE := Lib.hid (And.intro hfb hw2)
  unfold FA at HE HK ⊢
  clear hfb hw2
  go_enter Tryz.func32, Tryz.ntmps32
  go_upto_region 1 with fail
  rw [HE.out.1, HE.out.2]
  clear HE
  have F2 : w2.cell? ⟨fb, 2, none⟩ = some (.int .i64 f.ki) := HK.out.cell 2
  have F3 : w2.cell? ⟨fb, 3, none⟩ = some (.int .i64 f.fr) := HK.out.cell 3
  by_cases h1 : f.ki = 18
  · have b1 : (f.ki == 18) = true := beq_iff_eq.2 h1
    have HF : Hid (firstF f = -25567) := Lib.hid (if_pos h1)
    clear h1
    go_wp2
    go_ret
    exact ⟨ret_i HF.out.symm, HB.out⟩
  · have b1 : (f.ki == 18) = false := beq_eq_false_iff_ne.2 h1
    by_cases h2 : f.ki = 6
    · have b2 : (f.ki == 6) = true := beq_iff_eq.2 h2
      by_cases h3 : -25567 ≤ f.fr ∧ f.fr ≤ 84005
      · have HF : Hid (firstF f = f.fr - (f.fr + 25567) % 7) := Lib.hid (by unfold firstF; rw [if_neg h1, if_pos ⟨h2, h3⟩])
        have HWD := Lib.hid (fun W => r4_Weekday f.fr W h3.1 h3.2)
        rw [decide_eq_true h3] at HIN
        have h31 := h3.1
        have h32 := h3.2
        obtain ⟨wd, hwd⟩ : ∃ z, (f.fr + 25567) % 7 = z := ⟨_, rfl⟩
        have hw0 : 0 ≤ wd := by omega
        have hw6 : wd ≤ 6 := by omega
        rw [hwd] at HF HWD
        clear h1 h2 h3 hwd
        go_wp2_with fail
        refine (HIN.out _).mono ?_
        rintro e w3 ⟨rfl, rfl⟩
        go_wp2_with fail
        go_quiet (first | (go_at_call 62; refine Calls.quiet_of_same (HWD.out _)))
        go_wp2
        go_ret
        exact ⟨ret_i HF.out.symm, bTrans HB.out (bDrewN _ _)⟩
      · have HF : Hid (firstF f = f.fr) := Lib.hid (by unfold firstF; rw [if_neg h1, if_neg fun h => h3 h.2])
        rw [decide_eq_false h3] at HIN
        clear h1 h2 h3
        go_wp2_with fail
        refine (HIN.out _).mono ?_
        rintro e w3 ⟨rfl, rfl⟩
        go_wp2
        go_ret
        exact ⟨ret_i HF.out.symm, HB.out⟩
    · have b2 : (f.ki == 6) = false := beq_eq_false_iff_ne.2 h2
      have HF : Hid (firstF f = f.fr) := Lib.hid (by unfold firstF; rw [if_neg h1, if_neg fun h => h2 h.1])
      clear h1 h2
      go_wp2
      go_ret
      exact ⟨ret_i HF.out.symm, HB.out⟩
theorem each_nil {p : Int} {X : List Kn} {k : Nat} {x : Kn} (h : X[k]? = some x) (hp : payB p x.2 = false) : sinceL p (X.take (k + 1)) = sinceL p (X.take k) := by
  unfold sinceL
  rw [eachL_take h, if_neg (by rw [hp]; simp), List.append_nil]
theorem each_more {p : Int} {X : List Kn} {k : Nat} {x : Kn} (h : X[k]? = some x) (hp : payB p x.2 = true) : sinceL p (X.take (k + 1)) = (if (sinceL p (X.take k)).2 = false then firstF x.2 else min (sinceL p (X.take k)).1 (firstF x.2), true) := by
  unfold sinceL
  rw [eachL_take h, if_pos hp, minL_snoc]
  by_cases h0 : eachL p (X.take k) = [] <;> simp [h0]
theorem payB_ref (p : Int) (f : Fa) : payB p f = !((f.ki == 13) || (f.ki == 17) || ((f.pe != 0) && (f.pe != p))) := by
  unfold payB
  by_cases h1 : f.pe = p <;> by_cases h2 : f.pe = 0 <;> by_cases h3 : f.ki = 13 <;> by_cases h4 : f.ki = 17 <;> simp [h1, h2, h3, h4]
set_option maxHeartbeats 4000000 in
set_option maxRecDepth 100000 in
theorem r32_Since (X : List Kn) (p : Int) (A : Option Addr) (cap : Nat) (w : World) (hn : X.length ≤ 1000000) (hs : SlF w A (X.map (·.2))) :
    Calls Tryz.prog 23 #[.slice A X.length cap, .int .u32 p] w fun e w' => e = .returned (.tuple #[.int .i64 (sinceL p X).1, .bool (sinceL p X).2]) ∧ Below w.heap.size w w' := by
  have HS := Lib.hid hs
  clear hs
  go_enter Tryz.func23, Tryz.ntmps23
  go_wp2
  go_loopw [6, 7, 8] (fun dv av iv wr => ∃ k : Nat, k ≤ X.length ∧ iv = .int .i64 k ∧ (∃ d a, dv = .int .i64 d ∧ av = .bool a ∧ Hid (sinceL p (X.take k) = (d, a))) ∧ Hid (Below w.heap.size w wr)) (fun _ _ iv _ => X.length - (intOf iv).toNat)
  case atStart => exact ⟨0, Nat.zero_le _, rfl, ⟨0, false, rfl, rfl, Lib.hid rfl⟩, Lib.hid (Below.refl _ _)⟩
  case round =>
    obtain ⟨k, hk, rfl, ⟨d, a, rfl, rfl, HI⟩, HB⟩ := hrel
    by_cases hlt : k < X.length
    · obtain ⟨x, hx⟩ : ∃ x, X[k]? = some x := ⟨_, List.getElem?_eq_getElem hlt⟩
      obtain ⟨b, off, rfl, hbl, hat⟩ := SlF.open_ (HS.out.below HB.out) (by intro h; rw [List.map_eq_nil_iff] at h; subst h; simp at hlt)
      have hat1 := hat k x.2 (by simp [hx])
      obtain ⟨C0, C1, C2, C3, C4, C5, C6, C7⟩ := hat1
      have HFX := Lib.hid (r32_First x.2 wr)
      unfold FA at HFX
      have HP := Lib.hid (payB_ref p x.2)
      have HN0 := Lib.hid (fun h => each_nil (p := p) hx h)
      have HN1 := Lib.hid (fun h => each_more (p := p) hx h)
      rw [HI.out] at HN0 HN1
      have hlt2 : (k : Int) < (X.length : Int) := by omega
      obtain ⟨fi, hfi⟩ : ∃ z, firstF x.2 = z := ⟨_, rfl⟩
      rw [hfi] at HFX HN1
      obtain ⟨pp, hpp⟩ : ∃ z, payB p x.2 = z := ⟨_, rfl⟩
      rw [hpp] at HP HN0 HN1
      clear hat hx hfi hpp HI
      go_upto_region 5 with fail
      go_cut [46] from 16 to 46 (fun q wx => q = .bool (!pp) ∧ wr = wx)
      case first =>
        obtain ⟨x1, b1⟩ : ∃ z, (x.2.ki == 13) = z := ⟨_, rfl⟩
        obtain ⟨x2, b2⟩ : ∃ z, (x.2.ki == 17) = z := ⟨_, rfl⟩
        obtain ⟨x3, b3⟩ : ∃ z, (x.2.pe != 0) = z := ⟨_, rfl⟩
        obtain ⟨x4, b4⟩ : ∃ z, (x.2.pe != p) = z := ⟨_, rfl⟩
        rw [b1, b2, b3, b4] at HP
        cases x1 <;> cases x2 <;> cases x3 <;> cases x4
        all_goals
          go_wp2
          go_meet
          exact ⟨by rw [HP.out]; rfl, rfl⟩
      case rest =>
        obtain ⟨rfl, rfl⟩ := hcut
        cases pp with
        | false =>
          have HN := Lib.hid (HN0.out rfl)
          go_wp2
          exact ⟨⟨k + 1, by omega, by go_num, ⟨d, a, rfl, rfl, HN⟩, HB⟩, by simp [intOf]; omega⟩
        | true =>
          have HN := Lib.hid (HN1.out rfl)
          simp only at HN
          go_wp2_with fail
          refine HFX.out.mono ?_
          rintro e w5 ⟨rfl, hb5⟩
          have HB5 := Lib.hid (bTrans HB.out hb5)
          clear hb5 HFX C0 C1 C2 C3 C4 C5 C6 C7
          cases a with
          | false =>
            go_wp2
            exact ⟨⟨k + 1, by omega, by go_num, ⟨fi, true, rfl, rfl, Lib.hid (by rw [HN.out]; rfl)⟩, HB5⟩, by simp [intOf]; omega⟩
          | true =>
            by_cases hm : fi < d
            · go_wp2
              exact ⟨⟨k + 1, by omega, by go_num, ⟨fi, true, rfl, rfl, Lib.hid (by rw [HN.out]; simp; omega)⟩, HB5⟩, by simp [intOf]; omega⟩
            · go_wp2
              exact ⟨⟨k + 1, by omega, by go_num, ⟨d, true, rfl, rfl, Lib.hid (by rw [HN.out]; simp; omega)⟩, HB5⟩, by simp [intOf]; omega⟩
    · obtain rfl : k = X.length := by omega
      rw [List.take_length] at HI
      go_wp2
      go_ret2
      exact ⟨by rw [HI.out]; rfl, HB.out⟩
theorem contains_take {L : List Int} {p x : Int} {k : Nat} (h : L[k]? = some x) (h0 : p ∉ L.take k) (hx : x ≠ p) : p ∉ L.take (k + 1) := by
  rw [List.take_add_one, h]
  simp [h0, Ne.symm hx]
theorem la_has (L : List Int) (p : Int) (A : Option Addr) (cap : Nat) (w : World) (hn : L.length ≤ 1000000) (hs : SlU w A L) :
    Calls Tryz.prog 25 #[.slice A L.length cap, .int .u32 p] w fun e w' => e = .returned (.bool (decide (p ∈ L))) ∧ w = w' := by
  have HS := Lib.hid hs
  clear hs
  go_enter Tryz.func25, Tryz.ntmps25
  go_wp2
  go_loopw [5] (fun iv wr => ∃ k : Nat, k ≤ L.length ∧ iv = .int .i64 k ∧ Hid (p ∉ L.take k) ∧ w = wr) (fun iv _ => L.length - (intOf iv).toNat)
  case atStart => exact ⟨0, Nat.zero_le _, rfl, Lib.hid (by simp), rfl⟩
  case round =>
    obtain ⟨k, hk, rfl, HN, rfl⟩ := hrel
    by_cases hlt : k < L.length
    · obtain ⟨x, hx⟩ : ∃ x, L[k]? = some x := ⟨_, List.getElem?_eq_getElem hlt⟩
      obtain ⟨b, off, rfl, hat⟩ := HS.out (by intro h; simp [h] at hlt)
      have c0 := hat k x hx
      have hlt2 : (k : Int) < (L.length : Int) := by omega
      by_cases h0 : x = p
      · have HF : Hid (decide (p ∈ L) = true) := Lib.hid (decide_eq_true (by rw [← h0]; exact List.mem_of_getElem? hx))
        have b0 : (x == p) = true := beq_iff_eq.2 h0
        clear hat hx h0
        go_wp2
        go_ret
        exact ⟨ret_b HF.out.symm, rfl⟩
      · have HN2 := Lib.hid (contains_take hx HN.out h0)
        have b0 : (x == p) = false := beq_eq_false_iff_ne.2 h0
        clear hat hx h0
        go_wp2
        exact ⟨⟨k + 1, by omega, by go_num, HN2, by first | rfl | trivial⟩, by simp [intOf]; omega⟩
    · obtain rfl : k = L.length := by omega
      have HF : Hid (decide (p ∈ L) = false) := Lib.hid (decide_eq_false (by have := HN.out; rwa [List.take_length] at this))
      go_wp2
      go_ret
      exact ⟨ret_b HF.out.symm, rfl⟩
end Go.Proofs.YtgheloooibafcaaGreatDoor

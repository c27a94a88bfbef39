/- slices.SortStableFunc at the elements of this program: the row holds the stable sort of what it held. -/
import Derived.Test.YtdpejolpjhlibaaGreatDoorSnR
namespace Go.Proofs.YtdpejolpjhlibaaGreatDoor
open Go.RowKit Go.Sort Go.BigFrame

section
variable {O : List Kn} {s t a : Nat}
theorem blks_up (hs : 0 < s) (ha : a = t * s) (h : a + s ≤ O.length) : blks lt s (O.take (a + s)) = blks lt s (O.take a) ++ ss lt ((O.drop a).take s) := by
  rw [List.take_add, blks_append hs t _ _ (by rw [List.length_take]; omega), blks_le (l := (O.drop a).take s) hs (by rw [List.length_take]; omega)]
theorem blks_cut (hs : 0 < s) (ha : a = t * s) (h : a ≤ O.length) : blks lt s O = blks lt s (O.take a) ++ blks lt s (O.drop a) := by
  conv => lhs; rw [← List.take_append_drop a O]
  exact blks_append hs t _ _ (by rw [List.length_take]; omega)
theorem blks_next (hs : 0 < s) (h : a + s ≤ O.length) : blks lt s (O.drop a) = ss lt ((O.drop a).take s) ++ blks lt s (O.drop (a + s)) := by
  conv => lhs; rw [← List.take_append_drop s (O.drop a)]
  rw [blks_cons hs (by rw [List.length_take, List.length_drop]; omega), List.drop_drop]
end

section
variable {O : List Kn} {s t a N : Nat}
theorem blks_two (hs : 0 < s) {l : List Kn} (h : 2 * s ≤ l.length) : blks lt s l = ss lt (l.take s) ++ ss lt ((l.drop s).take s) ++ blks lt s (l.drop (2 * s)) := by
  have h1 := blks_next (O := l) (a := 0) hs (by omega)
  have h2 := blks_next (O := l) (a := s) hs (by omega)
  simp only [List.drop_zero, Nat.zero_add] at h1
  rw [h1, h2, List.append_assoc, show s + s = 2 * s by omega]
theorem pair_up (hs : 0 < s) (ha : a = t * (2 * s)) (hN : O.length = N) (h : a + 2 * s ≤ N) :
    Two (blks lt (2 * s) (O.take a) ++ blks lt s (O.drop a)) (blks lt (2 * s) (O.take a)) (ss lt ((O.drop a).take s)) (ss lt ((O.drop (a + s)).take s)) (blks lt s (O.drop (a + 2 * s))) a (a + s) (a + 2 * s) N ∧
    blks lt (2 * s) (O.take a) ++ mg lt (ss lt ((O.drop a).take s)) (ss lt ((O.drop (a + s)).take s)) ++ blks lt s (O.drop (a + 2 * s)) = blks lt (2 * s) (O.take (a + 2 * s)) ++ blks lt s (O.drop (a + 2 * s)) := by
  subst hN
  have e := blks_two hs (l := O.drop a) (by rw [List.length_drop]; omega)
  rw [List.drop_drop, List.drop_drop] at e
  refine ⟨⟨by rw [e]; simp [List.append_assoc], ?_, ?_, ?_, ?_, srt_ss lt_swk _, srt_ss lt_swk _⟩, ?_⟩
  · simp only [List.length_append, blks_length, List.length_take, List.length_drop]; omega
  · rw [blks_length, List.length_take]; omega
  · rw [ss_length, List.length_take, List.length_drop]; omega
  · rw [ss_length, List.length_take, List.length_drop]; omega
  · rw [blks_up (s := 2 * s) (by omega) ha h, mg_ss lt_swk, show (2 * s) = s + s by omega, List.take_add, List.drop_drop]
theorem pair_last (hs : 0 < s) (ha : a = t * (2 * s)) (hN : O.length = N) (h : a + s < N) (h2 : N < a + 2 * s) :
    Two (blks lt (2 * s) (O.take a) ++ blks lt s (O.drop a)) (blks lt (2 * s) (O.take a)) (ss lt ((O.drop a).take s)) (ss lt (O.drop (a + s))) [] a (a + s) N N ∧
    blks lt (2 * s) (O.take a) ++ mg lt (ss lt ((O.drop a).take s)) (ss lt (O.drop (a + s))) ++ [] = blks lt (2 * s) O := by
  subst hN
  have e := blks_next (O := O) (a := a) hs (by omega)
  rw [blks_le (l := O.drop (a + s)) hs (by rw [List.length_drop]; omega)] at e
  refine ⟨⟨by rw [e]; simp [List.append_assoc], ?_, ?_, ?_, ?_, srt_ss lt_swk _, srt_ss lt_swk _⟩, ?_⟩
  · simp only [List.length_append, blks_length, List.length_take, List.length_drop]; omega
  · rw [blks_length, List.length_take]; omega
  · rw [ss_length, List.length_take, List.length_drop]; omega
  · rw [ss_length, List.length_drop]; omega
  · conv => rhs; rw [blks_cut (O := O) (s := 2 * s) (a := a) (by omega) ha (by omega)]
    rw [mg_ss lt_swk, ← List.drop_drop, List.take_append_drop, List.append_nil, blks_le (s := 2 * s) (l := O.drop a) (by omega) (by rw [List.length_drop]; omega)]
theorem pair_none (hs : 0 < s) (ha : a = t * (2 * s)) (hN : O.length = N) (h0 : a ≤ N) (h : N ≤ a + s) : blks lt (2 * s) (O.take a) ++ blks lt s (O.drop a) = blks lt (2 * s) O := by
  subst hN
  conv => rhs; rw [blks_cut (O := O) (s := 2 * s) (a := a) (by omega) ha h0]
  rw [blks_le (s := s) (l := O.drop a) hs (by rw [List.length_drop]; omega), blks_le (s := 2 * s) (l := O.drop a) (by omega) (by rw [List.length_drop]; omega)]
end

set_option maxHeartbeats 1000000 in
set_option maxRecDepth 100000 in
theorem stableCmp (g cap N : Nat) (O : List Kn) (w : World) (hN : O.length = N) (hn : N ≤ 1000000) (hr : RowK g cap O w) :
    Calls Tryz.prog 63 #[.slice (some ⟨g, 0, none⟩) N cap, .int .i64 N, .func (.func 38) #[] #[]] w fun e w' =>
      e = .returned (.tuple #[]) ∧ w.grownBy w' (some g) ∧ RowK g cap (ss lt O) w' := by
  have HN := Lib.hid hN
  clear hN
  go_enter Tryz.func63, Tryz.ntmps63
  go_wp2
  go_loopw [7, 8] (fun av bv wr => ∃ a t : Nat, a ≤ N ∧ av = .int .i64 a ∧ bv = .int .i64 (a + 20 : Nat) ∧ w.grownBy wr (some g) ∧ Hid (a = t * 20 ∧ RowK g cap (blks lt 20 (O.take a) ++ O.drop a) wr)) (fun av _ _ => N - (intOf av).toNat)
  case atStart => exact ⟨0, 0, by omega, rfl, rfl, World.grownBy.refl _ _, Lib.hid ⟨by omega, by simpa [blks_nil] using hr⟩⟩
  case round =>
    obtain ⟨a, t, ha, rfl, rfl, hg, HR⟩ := hrel
    have hN0 := HN.out
    have l1 : (blks lt 20 (O.take a)).length = a := by rw [blks_length, List.length_take]; omega
    by_cases hlt : a + 20 ≤ N
    · have hsp : blks lt 20 (O.take a) ++ O.drop a = blks lt 20 (O.take a) ++ (O.drop a).take 20 ++ O.drop (a + 20) := by
        rw [List.append_assoc, ← List.drop_drop, List.take_append_drop]
      have hc := insSort g cap N a (a + 20) (blks lt 20 (O.take a)) ((O.drop a).take 20) (O.drop (a + 20)) wr
        (by rw [← hsp, List.length_append, l1, List.length_drop]; omega) hn l1 (by rw [List.length_take, List.length_drop]; omega) (by rw [← hsp]; exact HR.out.2)
      rw [← blks_up (by omega) HR.out.1 (by omega)] at hc
      have HC := Lib.hid hc
      clear hc hsp l1 hN0
      have w1 : IntKind.i64.wrap ((a : Int) + 20 + 20) = (a : Int) + 20 + 20 := IntWalk.i64_in _ (by omega)
      have hltz : (a : Int) + 20 ≤ (N : Int) := by omega
      go_wp2_with fail
      refine (HC.out).mono ?_
      rintro e w1 ⟨rfl, hg1, hr1⟩
      have HR1 := Lib.hid hr1
      clear hr1
      go_wp2
      exact ⟨⟨a + 20, t + 1, by omega, by go_num, by go_num, gTrans hg hg1, Lib.hid ⟨by have := HR.out.1; omega, HR1.out⟩⟩, by simp [intOf]; omega⟩
    · have hsp : blks lt 20 (O.take a) ++ O.drop a = blks lt 20 (O.take a) ++ O.drop a ++ [] := by simp
      have hc := insSort g cap N a N (blks lt 20 (O.take a)) (O.drop a) [] wr
        (by rw [← hsp, List.length_append, l1, List.length_drop]; omega) hn l1 (by rw [List.length_drop]; omega) (by rw [← hsp]; exact HR.out.2)
      rw [← blks_le (s := 20) (by omega) (by rw [List.length_drop]; omega), ← blks_cut (by omega) HR.out.1 (by omega), List.append_nil] at hc
      have HC := Lib.hid hc
      clear hc hsp l1 hN0
      have hltz : ¬ (a : Int) + 20 ≤ (N : Int) := by omega
      go_wp2_with fail
      refine (HC.out).mono ?_
      rintro e w1 ⟨rfl, hg1, hr1⟩
      have hg2 := gTrans hg hg1
      have HR1 := Lib.hid hr1
      clear hr1
      obtain ⟨wo, rfl⟩ : ∃ wo : World, wo = w1 := ⟨_, rfl⟩
      go_wp2
      go_loopw [6, 7, 8, 9] (fun sv av bv mv wr => ∃ s : Nat, 20 ≤ s ∧ s ≤ 2 * N + 20 ∧ sv = .int .i64 s ∧ w.grownBy wr (some g) ∧ Hid (RowK g cap (blks lt s O) wr)) (fun sv _ _ _ _ => N - (intOf sv).toNat)
      case atStart => exact ⟨20, by omega, by omega, by go_num, hg2, HR1⟩
      case round =>
        obtain ⟨s, hs1, hs2, rfl, hgo, HRo⟩ := hrel
        by_cases hsn : s < N
        · have w0 : IntKind.i64.wrap (2 * (s : Int)) = 2 * (s : Int) := IntWalk.i64_in _ (by omega)
          obtain ⟨wo, rfl⟩ : ∃ wx : World, wx = wr := ⟨_, rfl⟩
          go_wp2
          go_loopw [7, 8] (fun av bv wr => ∃ a t : Nat, a ≤ N ∧ av = .int .i64 a ∧ bv = .int .i64 (a + 2 * s : Nat) ∧ w.grownBy wr (some g) ∧ Hid (a = t * (2 * s) ∧ RowK g cap (blks lt (2 * s) (O.take a) ++ blks lt s (O.drop a)) wr)) (fun av _ _ => N - (intOf av).toNat)
          case atStart => exact ⟨0, 0, by omega, rfl, by go_num, hgo, Lib.hid ⟨by omega, by simpa [blks_nil] using HRo.out⟩⟩
          case round =>
            obtain ⟨a, t, haN, rfl, rfl, hg3, HR3⟩ := hrel
            have hs0 : 0 < s := by omega
            by_cases hlt : a + 2 * s ≤ N
            · obtain ⟨h2, he⟩ := pair_up (O := O) (N := N) hs0 HR3.out.1 HN.out hlt
              have hc := symMerge (2 * s) g cap N a (a + s) (a + 2 * s) _ _ _ _ _ wr (by omega) h2 hn (by omega) (by omega) HR3.out.2
              rw [he] at hc
              have HC := Lib.hid hc
              clear hc h2 he
              have w1 : IntKind.i64.wrap ((a : Int) + s) = (a : Int) + s := IntWalk.i64_in _ (by omega)
              have w2 : IntKind.i64.wrap ((a : Int) + 2 * s + 2 * s) = (a : Int) + 2 * s + 2 * s := IntWalk.i64_in _ (by omega)
              have hltz : (a : Int) + 2 * s ≤ (N : Int) := by omega
              go_wp2_with fail
              refine (HC.out).mono ?_
              rintro e w1 ⟨rfl, hg4, hr4⟩
              have HR4 := Lib.hid hr4
              clear hr4
              go_wp2
              exact ⟨⟨a + 2 * s, t + 1, by omega, by go_num, by go_num, gTrans hg3 hg4, Lib.hid ⟨by rw [HR3.out.1, Nat.add_mul, Nat.one_mul], HR4.out⟩⟩, by simp [intOf]; omega⟩
            · have hltz : ¬ (a : Int) + 2 * s ≤ (N : Int) := by omega
              by_cases hm : a + s < N
              · obtain ⟨h2, he⟩ := pair_last (O := O) (N := N) hs0 HR3.out.1 HN.out hm (by omega)
                have hc := symMerge (2 * s) g cap N a (a + s) N _ _ _ _ _ wr (by omega) h2 hn (by omega) (by omega) HR3.out.2
                rw [he] at hc
                have HC := Lib.hid hc
                clear hc h2 he
                have w1 : IntKind.i64.wrap ((a : Int) + s) = (a : Int) + s := IntWalk.i64_in _ (by omega)
                have w2 : IntKind.i64.wrap ((s : Int) * 2) = (s : Int) * 2 := IntWalk.i64_in _ (by omega)
                go_wp2_with fail
                refine (HC.out).mono ?_
                rintro e w1 ⟨rfl, hg4, hr4⟩
                have HR4 := Lib.hid hr4
                clear hr4
                go_wp2
                exact ⟨⟨2 * s, by omega, by omega, by go_num, gTrans hg3 hg4, HR4⟩, by simp [intOf]; omega⟩
              · have he := pair_none (O := O) (N := N) hs0 HR3.out.1 HN.out haN (by omega)
                have hr4 := HR3.out.2
                rw [he] at hr4
                have HR4 := Lib.hid hr4
                clear hr4 he
                have w1 : IntKind.i64.wrap ((a : Int) + s) = (a : Int) + s := IntWalk.i64_in _ (by omega)
                have w2 : IntKind.i64.wrap ((s : Int) * 2) = (s : Int) * 2 := IntWalk.i64_in _ (by omega)
                go_wp2
                exact ⟨⟨2 * s, by omega, by omega, by go_num, hg3, HR4⟩, by simp [intOf]; omega⟩
        · have hz := HRo.out
          rw [blks_le (by omega) (by have := HN.out; omega)] at hz
          have HZ := Lib.hid hz
          clear hz
          go_wp2
          go_end0
          exact ⟨rfl, hgo, HZ.out⟩

/-- slices.SortStableFunc by the days: the row holds the stable sort of what it held. -/
theorem sortStable (g cap : Nat) (O : List Kn) (w : World) (hn : O.length ≤ 1000000) (hr : RowK g cap O w) :
    Calls Tryz.prog 37 #[.slice (some ⟨g, 0, none⟩) O.length cap, .func (.func 38) #[] #[]] w fun e w' =>
      e = .returned (.tuple #[]) ∧ w.grownBy w' (some g) ∧ RowK g cap (ss lt O) w' := by
  have HC := Lib.hid (stableCmp g cap O.length O w rfl hn hr)
  go_enter Tryz.func37, Tryz.ntmps37
  go_wp2_with fail
  refine (HC.out).mono ?_
  rintro e w1 ⟨rfl, hg, hr⟩
  go_wp2
  go_end0
  exact ⟨rfl, hg, hr⟩

theorem sortOk : SortOk := fun g cap O w hn hr => sortStable g cap O w hn hr
end Go.Proofs.YtdpejolpjhlibaaGreatDoor

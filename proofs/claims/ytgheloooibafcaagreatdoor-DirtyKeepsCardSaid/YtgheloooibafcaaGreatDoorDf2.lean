import Derived.Test.YtgheloooibafcaaGreatDoorDf1
/- The walk of DirtyKeeps. -/
namespace Go.Proofs.YtgheloooibafcaaGreatDoor
open Go.RowKit Go.Sort

theorem filter_at {α : Type} {p : α → Bool} {l : List α} {k : Nat} {x : α} (h : l[k]? = some x) (hp : p x = true) : (l.filter p)[((l.take k).filter p).length]? = some x := by
  have e : l = l.take k ++ x :: l.drop (k + 1) := by
    have hk := (List.getElem?_eq_some_iff.1 h).1
    have h1 : l[k] = x := by have := List.getElem?_eq_getElem hk; rw [h] at this; exact (Option.some.inj this).symm
    rw [← h1, ← List.drop_eq_getElem_cons hk, List.take_append_drop]
  conv => lhs; rw [e]
  rw [List.filter_append, List.filter_cons, if_pos hp]
  have e2 : (List.take k (List.take k l ++ x :: List.drop (k + 1) l)) = l.take k := by rw [← e]
  rw [e2, List.getElem?_append_right (Nat.le_refl _), Nat.sub_self]
  rfl
theorem take_map_filter {p : Int × Int × List Ln → Bool} {Z : List Sz} (k : Nat) : ((Z.take k).map Sz.key).filter p = ((Z.map Sz.key).take k).filter p := by rw [List.map_take]
theorem ahead_mono {y i e : Int} (h : ¬ i < e) (K : List (Int × Int × List Ln)) : (K.filter (aheadK y e)).length ≤ (K.filter (aheadK y i)).length := by
  rw [← List.countP_eq_length_filter, ← List.countP_eq_length_filter]
  refine List.countP_mono_left fun x _ hx => ?_
  unfold aheadK at hx ⊢
  rw [decide_eq_true_eq] at hx ⊢
  omega
theorem room_keys {Z X : List Sz} {p : Int × Int × List Ln → Bool} (h : RoomZ Z) (hk : X.map Sz.key = (Z.map Sz.key).filter p) : RoomZ X := by
  intro x hx
  have h1 : x.key ∈ X.map Sz.key := List.mem_map.2 ⟨x, hx, rfl⟩
  rw [hk] at h1
  obtain ⟨z, hz, he⟩ := List.mem_map.1 (List.mem_filter.1 h1).1
  obtain ⟨_, _, e3⟩ := key_eq he
  rw [← e3]
  exact h z hz
set_option maxHeartbeats 8000000 in
set_option maxRecDepth 100000 in
theorem lw_DKeeps (Z : List Sz) (A : Option Addr) (cap : Nat) (y i er : Int) (w : World) (hn : Z.length ≤ maxLen) (hr : RoomZ Z) (hs : SlZ w A Z) (hT : Tb w) (hC : Tab w) :
    Calls Tryz.prog 7 #[.slice A Z.length cap, .int .i64 y, .int .i64 i, .int .i64 er] w fun e w' => e = .returned (.bool true) ∧ Below w.heap.size w w' := by
  have HAW := Lib.hid (la_awake32 w hT hC)
  have HR := Lib.hid hr
  have HS := Lib.hid hs
  have hn' : (Z.length : Int) ≤ 9223372036854775807 := by unfold maxLen at hn; omega
  clear hr hs hT hC
  go_enter Tryz.func7, Tryz.ntmps7
  go_wp2_with fail
  refine HAW.out.mono ?_
  rintro e w3 ⟨rfl, hb3⟩
  have HB3 : Hid (Below w.heap.size w w3) := Lib.hid hb3
  have HS3 := Lib.hid (HS.out.below hb3)
  clear hb3 HAW
  by_cases h1 : (60 : Int) < (Z.length : Int)
  · have d1 : decide ((60 : Int) < (Z.length : Int)) = true := decide_eq_true h1
    go_wp2
    go_ret
    exact ⟨rfl, HB3.out⟩
  have d1 : decide ((60 : Int) < (Z.length : Int)) = false := decide_eq_false h1
  have hz60 : Z.length ≤ 60 := by omega
  have HK := Lib.hid (dy_Keep Z A cap y i w3 (by omega) HR.out HS3.out)
  go_wp2_with fail
  refine HK.out.mono ?_
  rintro e w4 ⟨⟨v4, rfl, ho4⟩, hb4⟩
  have HB4 : Hid (Below w.heap.size w w4) := Lib.hid (bTrans HB3.out hb4)
  have HS4 := Lib.hid (HS3.out.below hb4)
  obtain ⟨C4, c4, X, rfl, hx4, hxk⟩ := ho4.sl
  have HX4 := Lib.hid hx4
  have HXK := Lib.hid hxk
  have HRX := Lib.hid (room_keys HR.out hxk)
  have hlx : X.length ≤ 60 := by
    rw [key_len hxk]
    have := List.length_filter_le (aheadK y i) (Z.map Sz.key)
    rw [List.length_map] at this
    omega
  clear hb4 ho4 hx4 hxk HK h1 d1
  go_wp2
  go_loopg [10, 11] Z.length (fun n cv iv wr => ∃ k m : Nat, k + n = Z.length ∧ iv = .int .i64 k ∧ cv = .int .i64 m ∧ m ≤ k ∧ Hid ((((Z.take k).map Sz.key).filter (aheadK y i)).length = m) ∧ Hid (Below w4.heap.size w4 wr))
  case atStart => exact ⟨0, 0, by omega, rfl, rfl, Nat.le_refl _, Lib.hid rfl, Lib.hid (Below.refl _ _)⟩
  case round =>
    obtain ⟨k, m, hk, rfl, rfl, hmk, HM, HB⟩ := hrel
    by_cases hlt : k < Z.length
    · obtain ⟨z, hz⟩ : ∃ x, Z[k]? = some x := ⟨_, List.getElem?_eq_getElem hlt⟩
      obtain ⟨g, off, rfl, _, hat⟩ := HS4.out.1 (by intro h; simp [h] at hlt)
      have G0 := bCell HB.out (hat k z hz 0 _ rfl)
      have G1 := bCell HB.out (hat k z hz 1 _ rfl)
      have G2 := bCell HB.out (hat k z hz 2 _ rfl)
      simp only [Nat.add_zero] at G0
      have HT := Lib.hid (ahead_take (y := y) (i := i) hz)
      have hlt2 : (k : Int) < (Z.length : Int) := by omega
      obtain ⟨ah, hah⟩ : ∃ x, aheadK y i z.key = x := ⟨_, rfl⟩
      have HXZ : Hid (ah = true → ∃ x, X[m]? = some x ∧ x.key = z.key) := Lib.hid fun ht => by
        have h2 := filter_at (p := aheadK y i) (l := Z.map Sz.key) (k := k) (x := z.key) (by rw [List.getElem?_map, hz]; rfl) (hah.trans ht)
        rw [← List.map_take, HM.out, ← HXK.out, List.getElem?_map] at h2
        cases hx : X[m]? with
        | none => rw [hx] at h2; cases h2
        | some x => rw [hx] at h2; exact ⟨x, rfl, Option.some.inj h2⟩
      rw [hah] at HT
      have HAH := Lib.hid hah
      clear hat hz hah
      go_upto_region 10 with fail
      go_cut [51] from 27 to 51 (fun q wx => q = .bool ah ∧ wr = wx)
      case first =>
        obtain ⟨x1, b1⟩ : ∃ x, decide (z.y < y) = x := ⟨_, rfl⟩
        obtain ⟨x2, b2⟩ : ∃ x, (z.y == y) = x := ⟨_, rfl⟩
        obtain ⟨x3, b3⟩ : ∃ x, decide (z.i < i) = x := ⟨_, rfl⟩
        have HX : Hid (ah = (x1 || (x2 && x3))) := Lib.hid (by
          rw [← HAH.out, ← b1, ← b2, ← b3]
          unfold aheadK Sz.key
          by_cases k1 : z.y < y <;> by_cases k2 : z.y = y <;> by_cases k3 : z.i < i <;> simp [k1, k2, k3])
        cases x1 <;> cases x2 <;> cases x3
        all_goals
          go_wp2
          go_meet
          exact ⟨by rw [HX.out]; rfl, rfl⟩
      case rest =>
        obtain ⟨rfl, rfl⟩ := hcut
        cases ah with
        | false =>
          have HM2 : Hid ((((Z.take (k + 1)).map Sz.key).filter (aheadK y i)).length = m) := Lib.hid (by rw [HT.out, if_neg (by simp), List.append_nil, HM.out])
          clear G0 G1 G2
          go_wp2
          go_roundg (Z.length - (k + 1))
          case measure => omega
          case rel => exact ⟨k + 1, m, by omega, by go_num, rfl, by omega, HM2, HB⟩
        | true =>
          have HM2 : Hid ((((Z.take (k + 1)).map Sz.key).filter (aheadK y i)).length = m + 1) := Lib.hid (by rw [HT.out, if_pos rfl, List.length_append, HM.out]; rfl)
          obtain ⟨x, hx, hkey⟩ := HXZ.out rfl
          obtain ⟨gx, ox, rfl, _, hax⟩ := HX4.out.1 (by intro h; simp [h] at hx)
          have E0 := bCell HB.out (hax m x hx 0 _ rfl)
          have E1 := bCell HB.out (hax m x hx 1 _ rfl)
          have E2 := bCell HB.out (hax m x hx 2 _ rfl)
          simp only [Nat.add_zero] at E0
          obtain ⟨e1, e2, e3⟩ := key_eq hkey
          have hmx : m < X.length := (List.getElem?_eq_some_iff.1 hx).1
          obtain ⟨y1, i1, A1, c1, l1⟩ := z
          obtain ⟨y2, i2, A2, c2, l2⟩ := x
          simp only at e1 e2 e3 G0 G1 G2 E0 E1 E2
          subst e1; subst e2; subst e3
          have dg : decide (((X.length : Nat) : Int) ≤ (m : Int)) = false := decide_eq_false (by omega)
          have hmx2 : (m : Int) < (X.length : Int) := by omega
          have n1 : (y2 != y2) = false := by simp
          have n2 : (i2 != i2) = false := by simp
          have n3 : (((l2.length : Nat) : Int) != ((l2.length : Nat) : Int)) = false := by simp
          clear hax hx hkey HXZ
          go_wp2_with fail
          go_quiet (fail)
          clear G0 G1 G2 E0 E1 E2
          go_wp2
          go_roundg (Z.length - (k + 1))
          case measure => omega
          case rel => exact ⟨k + 1, m + 1, by omega, by go_num, by go_num, by omega, HM2, Lib.hid (bTrans HB.out (bDrewN _ _))⟩
    · obtain rfl : k = Z.length := by omega
      have HMX : Hid (m = X.length) := Lib.hid (by rw [← HM.out, List.take_length, key_len HXK.out])
      obtain ⟨mx, hmx⟩ : ∃ q, X.length = q := ⟨_, rfl⟩
      have hmm : m = mx := HMX.out.trans hmx
      subst hmm
      have HBr := Lib.hid (bTrans HB4.out HB.out)
      have hk2 := dy_Keep X C4 c4 y i wr (by omega) HRX.out (HX4.out.below HB.out)
      rw [hmx] at hk2
      have HK2 := Lib.hid hk2
      have HF2 : Hid (((X.map Sz.key).filter (aheadK y i)).length = m) := Lib.hid (by
        rw [HXK.out, List.filter_filter]
        simp only [Bool.and_self]
        rw [← key_len HXK.out]; exact hmx)
      have HF3 : Hid (¬ i < er → (((Z.map Sz.key).filter (aheadK y er)).length : Int) ≤ (m : Int)) := Lib.hid fun h => by
        have := ahead_mono (y := y) h (Z.map Sz.key)
        rw [← key_len HXK.out, hmx] at this
        omega
      have be : ((m : Int) == (m : Int)) = true := beq_self_eq_true _
      clear hk2 HM hk hlt HMX
      rw [hmx]
      clear hmx
      go_wp2_with fail
      refine HK2.out.mono ?_
      rintro e w6 ⟨⟨v6, rfl, ho6⟩, hb6⟩
      obtain ⟨C6, c6, X6, rfl, hx6, hxk6⟩ := ho6.sl
      have hl6 : X6.length = m := (key_len hxk6).trans HF2.out
      rw [hl6]
      have HB6 := Lib.hid (bTrans HB.out hb6)
      have HBw6 := Lib.hid (bTrans HBr.out hb6)
      clear hb6 ho6 hx6 hxk6 hl6 HK2 HF2
      by_cases hie : i < er
      · have d3 : decide (i < er) = true := decide_eq_true hie
        go_wp2
        go_ret
        exact ⟨rfl, HBw6.out⟩
      · have d3 : decide (i < er) = false := decide_eq_false hie
        have HLE := Lib.hid (HF3.out (by omega))
        have HK3 := Lib.hid (dy_Keep Z A cap y er w6 (by omega) HR.out (HS4.out.below HB6.out))
        go_wp2_with fail
        refine HK3.out.mono ?_
        rintro e w7 ⟨⟨v7, rfl, ho7⟩, hb7⟩
        obtain ⟨C7, c7, X7, rfl, hx7, hxk7⟩ := ho7.sl
        have hl7 : (X7.length : Int) ≤ (m : Int) := by rw [key_len hxk7]; exact HLE.out
        have d4 : decide ((X7.length : Int) ≤ (m : Int)) = true := decide_eq_true hl7
        have HBw7 := Lib.hid (bTrans HBw6.out hb7)
        clear hb7 ho7 hx7 hxk7 HK3
        go_wp2
        go_ret
        exact ⟨rfl, HBw7.out⟩
end Go.Proofs.YtgheloooibafcaaGreatDoor

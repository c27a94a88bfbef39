import Derived.Test.YtgheloooibafcaaGreatDoorDa1
import Derived.Test.YtgheloooibafcaaGreatDoorDr1
import Derived.Test.YtgheloooibafcaaGreatDoorDks
import Derived.Test.YtgheloooibafcaaGreatDoorDl0
import Derived.Test.YtgheloooibafcaaGreatDoorOp9
/- The walk of DirtyFirst. -/
namespace Go.Proofs.YtgheloooibafcaaGreatDoor
open Go.RowKit Go.Sort

theorem key_eq {a b : Sz} (h : a.key = b.key) : a.y = b.y ∧ a.i = b.i ∧ a.ls = b.ls := by
  unfold Sz.key at h
  injection h with h1 h2
  injection h2 with h2 h3
  exact ⟨h1, h2, h3⟩
theorem keys_at {X Y : List Sz} (h : X.map Sz.key = Y.map Sz.key) {k : Nat} {x y : Sz} (hx : X[k]? = some x) (hy : Y[k]? = some y) : x.key = y.key := by
  have h1 : (X.map Sz.key)[k]? = some x.key := by rw [List.getElem?_map, hx]; rfl
  rw [h, List.getElem?_map, hy] at h1
  injection h1 with h1
  exact h1.symm
theorem filter_key (p : Int × Int × List Ln → Bool) (Z : List Sz) : (Z.filter fun z => p z.key).map Sz.key = (Z.map Sz.key).filter p := by
  rw [List.filter_map]
  rfl
theorem two_box {W : World} {fb : Nat} {f : Fa} {T : TypeId} (h : Bk fb T (FA f) W) : W.cell? ⟨fb, 0, none⟩ = some (.int .u32 f.id) ∧ W.cell? ⟨fb, 1, none⟩ = some (.int .u32 f.pe) ∧ W.cell? ⟨fb, 2, none⟩ = some (.int .i64 f.ki) ∧ W.cell? ⟨fb, 3, none⟩ = some (.int .i64 f.fr) ∧ W.cell? ⟨fb, 4, none⟩ = some (.int .i64 f.to) ∧ W.cell? ⟨fb, 5, none⟩ = some (.string f.co) ∧ W.cell? ⟨fb, 6, none⟩ = some (.int .i64 f.nu) ∧ W.cell? ⟨fb, 7, none⟩ = some (.string f.tx) :=
  ⟨h.cell 0, h.cell 1, h.cell 2, h.cell 3, h.cell 4, h.cell 5, h.cell 6, h.cell 7⟩
set_option maxHeartbeats 4000000 in
set_option maxRecDepth 100000 in
theorem lw_DFirst (f : Fa) (Z : List Sz) (A : Option Addr) (cap : Nat) (y i : Int) (w : World) (hf : FitW f) (hn : Z.length ≤ maxLen) (hr : RoomZ Z) (hs : SlZ w A Z) (hT : Tb w) (hC : Tab w) :
    Calls Tryz.prog 6 #[.agg (FA f), .slice A Z.length cap, .int .i64 y, .int .i64 i] w fun e w' => e = .returned (.bool true) ∧ Below w.heap.size w w' := by
  obtain ⟨fb, hfb⟩ : ∃ x, w.heap.size = x := ⟨_, rfl⟩
  obtain ⟨w2, hw2⟩ : ∃ x, w.alloc (.cells (FA f) 39) = x := ⟨_, rfl⟩
  have HK2 : Hid (Bk fb 39 (FA f) w2) := Lib.hid (by rw [← hw2, ← hfb]; exact Bk.new _ _ _)
  have HB2 : Hid (Below w.heap.size w w2) := Lib.hid (by rw [← hw2]; exact bAlloc _ _)
  have HAW := Lib.hid (la_awake32 w2 (hT.below HB2.out) (hC.below HB2.out))
  have HFW := Lib.hid hf
  have HR := Lib.hid hr
  have HS2 := Lib.hid (hs.below HB2.out)
  have HE2 := Lib.hid (And.intro hfb hw2)
  have hn' : (Z.length : Int) ≤ 9223372036854775807 := by unfold maxLen at hn; omega
  unfold FA at HE2
  clear hfb hw2 hf hr hs hT hC
  unfold FA
  go_enter Tryz.func6, Tryz.ntmps6
  go_upto_region 1 with fail
  rw [HE2.out.1, HE2.out.2]
  clear HE2
  go_wp2_with fail
  refine HAW.out.mono ?_
  rintro e w3 ⟨rfl, hb3⟩
  have HK3 : Hid (Bk fb 39 (FA f) w3) := Lib.hid ((hb3.block fb HK2.out.lt).trans HK2.out)
  have HB3 : Hid (Below w.heap.size w w3) := Lib.hid (bTrans HB2.out hb3)
  have HS3 := Lib.hid (HS2.out.below hb3)
  clear hb3 HAW
  go_upto_region 3 with fail
  obtain ⟨F0, F1, F2, F3, F4, F5, F6, F7⟩ := two_box HK3.out
  by_cases h1 : (60 : Int) < (Z.length : Int)
  · have d1 : decide ((60 : Int) < (Z.length : Int)) = true := decide_eq_true h1
    go_wp2
    go_ret
    exact ⟨rfl, HB3.out⟩
  have d1 : decide ((60 : Int) < (Z.length : Int)) = false := decide_eq_false h1
  by_cases h2 : (300 : Int) < (f.co.size : Int)
  · have d2 : decide ((300 : Int) < (f.co.size : Int)) = true := decide_eq_true h2
    go_wp2
    go_ret
    exact ⟨rfl, HB3.out⟩
  have d2 : decide ((300 : Int) < (f.co.size : Int)) = false := decide_eq_false h2
  by_cases h3 : (300 : Int) < (f.tx.size : Int)
  · have d3 : decide ((300 : Int) < (f.tx.size : Int)) = true := decide_eq_true h3
    go_wp2
    go_ret
    exact ⟨rfl, HB3.out⟩
  have d3 : decide ((300 : Int) < (f.tx.size : Int)) = false := decide_eq_false h3
  have hz60 : Z.length ≤ 60 := by omega
  have HFT : Hid (Fit f) := Lib.hid ⟨HFW.out.id, HFW.out.pe, HFW.out.ki, HFW.out.fr, HFW.out.tO, HFW.out.nu, by omega, by omega⟩
  have HK := Lib.hid (dy_Keep Z A cap y i w3 (by omega) HR.out HS3.out)
  go_wp2_with fail
  refine HK.out.mono ?_
  rintro e w4 ⟨⟨v4, rfl, ho4⟩, hb4⟩
  have HB4 : Hid (Below w.heap.size w w4) := Lib.hid (bTrans HB3.out hb4)
  have HK4 : Hid (Bk fb 39 (FA f) w4) := Lib.hid ((hb4.block fb HK3.out.lt).trans HK3.out)
  have HS4 := Lib.hid (HS3.out.below hb4)
  have HO4 := Lib.hid ho4
  have HR4 := Lib.hid (r32_Keep Z A cap y i w4 (by omega) HS4.out.1)
  clear F0 F1 F2 F3 F4 F5 F6 F7 hb4 ho4 HK h1 h2 h3 d1 d2 d3
  go_wp2_with fail
  refine HR4.out.mono ?_
  rintro e w5 ⟨⟨v5, rfl, ho5⟩, hb5⟩
  have HB5 : Hid (Below w.heap.size w w5) := Lib.hid (bTrans HB4.out hb5)
  have HK5 : Hid (Bk fb 39 (FA f) w5) := Lib.hid ((hb5.block fb HK4.out.lt).trans HK4.out)
  obtain ⟨B5, c5, rfl, _, hs5⟩ := own_sl encZ_len ho5
  obtain ⟨C5, d5, X, rfl, hx5, hxk⟩ := (HO4.out.below hb5).sl
  obtain ⟨Y, hY⟩ : ∃ Y, (Z.filter fun z => aheadK y i z.key) = Y := ⟨_, rfl⟩
  have HYL : Hid (∀ z ∈ Y, SlL w5 z.A z.ls) := Lib.hid fun z hz => by
    rw [← hY] at hz
    exact sl_bel (HS4.out.2 z (List.mem_filter.1 hz).1) hb5
  have hkk : X.map Sz.key = Y.map Sz.key := by rw [hxk, ← hY, filter_key]
  have hll : X.length = Y.length := by simpa using congrArg List.length hkk
  have hl60 : Y.length ≤ 60 := by rw [← hY]; exact Nat.le_trans (List.length_filter_le _ _) hz60
  rw [hY] at hs5
  rw [hY, hll]
  have HX5 := Lib.hid hx5
  have HY5 := Lib.hid hs5
  have HKK := Lib.hid hkk
  have HLL := Lib.hid hll
  have nll : (((Y.length : Nat) : Int) != ((Y.length : Nat) : Int)) = false := by simp
  clear hb5 ho5 hs5 hx5 hxk hY hkk hll HR4 HO4
  go_wp2
  go_loopg [11] Y.length (fun n iv wr => ∃ k : Nat, k + n = Y.length ∧ iv = .int .i64 k ∧ Hid (Below w5.heap.size w5 wr))
  case atStart => exact ⟨0, by omega, rfl, Lib.hid (Below.refl _ _)⟩
  case round =>
    obtain ⟨k, hk, rfl, HB⟩ := hrel
    by_cases hlt : k < Y.length
    · obtain ⟨zx, hzx⟩ : ∃ x, X[k]? = some x := ⟨_, List.getElem?_eq_getElem (by rw [HLL.out]; exact hlt)⟩
      obtain ⟨zy, hzy⟩ : ∃ x, Y[k]? = some x := ⟨_, List.getElem?_eq_getElem hlt⟩
      obtain ⟨gx, ox, rfl, _, hatx⟩ := HX5.out.1 (by intro h; simp [h] at hzx)
      obtain ⟨gy, oy, rfl, _, haty⟩ := HY5.out (by intro h; simp [h] at hzy)
      obtain ⟨e1, e2, e3⟩ := key_eq (keys_at HKK.out hzx hzy)
      have hsx := HX5.out.2 zx (List.mem_of_getElem? hzx)
      have hsy := HYL.out zy (List.mem_of_getElem? hzy)
      obtain ⟨y1, i1, A1, c1, l1⟩ := zx
      obtain ⟨y2, i2, A2, c2, l2⟩ := zy
      simp only at e1 e2 e3 hsx hsy
      subst e1; subst e2; subst e3
      have HCX : Hid (∀ W, Below wr.heap.size wr W → (W.cell? ⟨gx, ox + k * 3, none⟩ = some (.int .i64 y1) ∧ W.cell? ⟨gx, ox + k * 3 + 1, none⟩ = some (.int .i64 i1) ∧ W.cell? ⟨gx, ox + k * 3 + 2, none⟩ = some (.slice A1 l1.length c1)) ∧ (W.cell? ⟨gy, oy + k * 3, none⟩ = some (.int .i64 y1) ∧ W.cell? ⟨gy, oy + k * 3 + 1, none⟩ = some (.int .i64 i1) ∧ W.cell? ⟨gy, oy + k * 3 + 2, none⟩ = some (.slice A2 l1.length c2))) := Lib.hid fun W hW => by
        have hb := bTrans HB.out hW
        exact ⟨⟨bCell hb (hatx k _ hzx 0 _ rfl), bCell hb (hatx k _ hzx 1 _ rfl), bCell hb (hatx k _ hzx 2 _ rfl)⟩, ⟨bCell hb (haty k _ hzy 0 _ rfl), bCell hb (haty k _ hzy 1 _ rfl), bCell hb (haty k _ hzy 2 _ rfl)⟩⟩
      have HLS : Hid (∀ W, Below wr.heap.size wr W → SlL W A1 l1 ∧ SlL W A2 l1) := Lib.hid fun W hW => ⟨sl_bel hsx (bTrans HB.out hW), sl_bel hsy (bTrans HB.out hW)⟩
      have hlt2 : (k : Int) < (Y.length : Int) := by omega
      obtain ⟨⟨G0, G1, G2⟩, _⟩ := HCX.out wr (Below.refl _ _)
      clear hatx haty hsx hsy hzx hzy
      by_cases hll : (60 : Int) < (l1.length : Int)
      · have dl : decide ((60 : Int) < (l1.length : Int)) = true := decide_eq_true hll
        go_wp2
        go_ret
        exact ⟨rfl, bTrans HB5.out HB.out⟩
      · have dl : decide ((60 : Int) < (l1.length : Int)) = false := decide_eq_false hll
        have HSM : Hid (∀ W, Below wr.heap.size wr W → Calls Tryz.prog 31 #[.agg #[.int .i64 y1, .int .i64 i1, .slice A1 l1.length c1], .agg #[.int .i64 y1, .int .i64 i1, .slice A2 l1.length c2]] W fun e w' => e = .returned (.bool true) ∧ Below W.heap.size W w') := Lib.hid fun W hW => r27_Same y1 i1 l1 A1 A2 c1 c2 W (HLS.out W hW).1 (HLS.out W hW).2 (by omega)
        clear HLS hll
        go_upto_region 13 with fail
        clear G0 G1 G2
        go_cut [64] from 55 to 64 (fun q wx => q = .bool false ∧ Hid (Below wr.heap.size wr wx))
        case first =>
          refine wp_region_mk (SPS [(9, Sp.val (.slice (some ⟨gx, ox, none⟩) Y.length d5)), (11, Sp.val (.int .i64 k)), (10, Sp.val (.slice (some ⟨gy, oy, none⟩) Y.length c5)), (57, Sp.val (.pointer (some ⟨gx, ox + k * 3, none⟩))), (61, Sp.val (.pointer (some ⟨gy, oy + k * 3, none⟩))), (58, Sp.val (.agg #[.int .i64 y1, .int .i64 i1, .slice A1 l1.length c1])), (62, Sp.val (.agg #[.int .i64 y1, .int .i64 i1, .slice A2 l1.length c2])), (63, Sp.val (.bool true)), (64, Sp.val (.bool false)), (55, Sp.val (.slice (some ⟨gx, ox, none⟩) Y.length d5)), (56, Sp.val (.int .i64 k)), (59, Sp.val (.slice (some ⟨gy, oy, none⟩) Y.length c5)), (60, Sp.val (.int .i64 k))]) [] [55, 56, 57, 58, 59, 60, 61, 62, 63, 64] rfl (by rfl) (by kernel_rfl) (SPS.st _) ?_ ?_ ?_ (by decide) (by rfl) ?_ (opsK_all ?_) ?_
          · exact nil_all
          · exact nil_all
          · exact nil_all
          · exact sps_start (cons_all rfl (cons_all rfl (cons_all rfl (nil_all))))
          · refine opsK_cons (by
             exact kind_n (opOk_move rfl rfl (.inl rfl) (by kernel_rfl) (fun _ _ h => sps rfl (h.get rfl))) (by decide)) ?_
            refine opsK_cons (by
             exact kind_n (opOk_move rfl rfl (.inl rfl) (by kernel_rfl) (fun _ _ h => sps rfl (h.get rfl))) (by decide)) ?_
            refine opsK_cons (by
             exact kind_n (opOk_run rfl (.inl rfl) (fun a W hW hsp => by
                have e55 : a.eval (.tmp 55) = .slice (some ⟨gx, ox, none⟩) Y.length d5 := (hsp 55 (by kernel_rfl)).get rfl
                have e56 : a.eval (.tmp 56) = .int .i64 k := (hsp 56 (by kernel_rfl)).get rfl
                refine ⟨.pointer (some ⟨gx, ox + k * 3, none⟩), ?_, sps rfl rfl⟩
                unfold execOp
                simp only [e55, e56]
                go_simp)) (by decide)) ?_
            refine opsK_cons (by
             exact kind_n (opOk_load (p := ⟨gx, ox + k * 3, none⟩) rfl rfl (.inl rfl) (by kernel_rfl) (fun _ _ h => h.get rfl) (fun W hW => by
                obtain ⟨q0, q1, q2⟩ := (HCX.out W hW).1
                exact ⟨.agg #[.int .i64 y1, .int .i64 i1, .slice A1 l1.length c1], by go_simp, sps rfl rfl⟩)) (by decide)) ?_
            refine opsK_cons (by
             exact kind_n (opOk_move rfl rfl (.inl rfl) (by kernel_rfl) (fun _ _ h => sps rfl (h.get rfl))) (by decide)) ?_
            refine opsK_cons (by
             exact kind_n (opOk_move rfl rfl (.inl rfl) (by kernel_rfl) (fun _ _ h => sps rfl (h.get rfl))) (by decide)) ?_
            refine opsK_cons (by
             exact kind_n (opOk_run rfl (.inl rfl) (fun a W hW hsp => by
                have e59 : a.eval (.tmp 59) = .slice (some ⟨gy, oy, none⟩) Y.length c5 := (hsp 59 (by kernel_rfl)).get rfl
                have e60 : a.eval (.tmp 60) = .int .i64 k := (hsp 60 (by kernel_rfl)).get rfl
                refine ⟨.pointer (some ⟨gy, oy + k * 3, none⟩), ?_, sps rfl rfl⟩
                unfold execOp
                simp only [e59, e60]
                go_simp)) (by decide)) ?_
            refine opsK_cons (by
             exact kind_n (opOk_load (p := ⟨gy, oy + k * 3, none⟩) rfl rfl (.inl rfl) (by kernel_rfl) (fun _ _ h => h.get rfl) (fun W hW => by
                obtain ⟨q0, q1, q2⟩ := (HCX.out W hW).2
                exact ⟨.agg #[.int .i64 y1, .int .i64 i1, .slice A2 l1.length c2], by go_simp, sps rfl rfl⟩)) (by decide)) ?_
            refine opsK_cons (by
             exact kind_n (opOk_callg (fun a => #[a.eval (.tmp 58), a.eval (.tmp 62)]) rfl rfl (.inl rfl) (fun a => by simp only [List.map_toArray, List.map_cons, List.map_nil] <;> rfl) (fun args W => by go_simp) (fun a W hW hsp => by
                have e58 : a.eval (.tmp 58) = .agg #[.int .i64 y1, .int .i64 i1, .slice A1 l1.length c1] := (hsp 58 (by kernel_rfl)).get rfl
                have e62 : a.eval (.tmp 62) = .agg #[.int .i64 y1, .int .i64 i1, .slice A2 l1.length c2] := (hsp 62 (by kernel_rfl)).get rfl
                simp only [e58, e62]
                exact (HSM.out W hW).mono fun e w' ⟨he, hb⟩ => ⟨_, he, hb, sps rfl rfl⟩)) (by decide)) ?_
            refine opsK_cons (by
             exact kind_n (opOk_run rfl (.inl rfl) (fun a W hW hsp => by
                have e63 : a.eval (.tmp 63) = .bool true := (hsp 63 (by kernel_rfl)).get rfl
                refine ⟨.bool false, ?_, sps rfl rfl⟩
                unfold execOp
                simp only [e63]
                go_simp)) (by decide)) ?_
            exact opsK_nil
          · intro vs W hb hsp _
            have z64 := (hsp 64).get rfl
            simp only [putAll]
            go_simp
            go_step
            go_meet
            exact ⟨z64, Lib.hid hb⟩
        case rest =>
          obtain ⟨rfl, HX⟩ := hcut
          have HBN := Lib.hid (bTrans HB.out HX.out)
          go_wp2
          go_roundg (Y.length - (k + 1))
          case measure => omega
          case rel => exact ⟨k + 1, by omega, by go_num, HBN⟩
    · obtain rfl : k = Y.length := by omega
      have HFI : Hid (∀ W, Calls Tryz.prog 28 #[.agg #[.int .u32 f.id, .int .u32 f.pe, .int .i64 f.ki, .int .i64 f.fr, .int .i64 f.to, .string f.co, .int .i64 f.nu, .string f.tx]] W fun e w' => e = .returned (.int .i64 (firstF f)) ∧ Below W.heap.size W w') := Lib.hid fun W => dy_First f W HFT.out
      have HRF : Hid (∀ W, Calls Tryz.prog 32 #[.agg #[.int .u32 f.id, .int .u32 f.pe, .int .i64 f.ki, .int .i64 f.fr, .int .i64 f.to, .string f.co, .int .i64 f.nu, .string f.tx]] W fun e w' => e = .returned (.int .i64 (firstF f)) ∧ Below W.heap.size W w') := Lib.hid fun W => r32_First f W
      have HOF : Hid (∀ W, Calls Tryz.prog 21 #[.agg #[.int .u32 f.id, .int .u32 f.pe, .int .i64 f.ki, .int .i64 f.fr, .int .i64 f.to, .string f.co, .int .i64 f.nu, .string f.tx]] W fun e w' => e = .returned (.agg #[.int .u32 f.id, .int .u32 f.pe, .int .i64 f.ki, .int .i64 f.fr, .int .i64 f.to, .string f.co, .int .i64 f.nu, .string f.tx]) ∧ Below W.heap.size W w') := Lib.hid fun W => la_of32 f W
      have HLD : Hid (∀ W, Below wr.heap.size wr W → Bk fb 39 (FA f) W) := Lib.hid fun W hW => by
        have h := (HB.out.block fb HK5.out.lt).trans HK5.out
        exact (hW.block fb (Bk.lt (t := 39) h)).trans h
      have HBR := Lib.hid (bTrans HB5.out HB.out)
      obtain ⟨fi, hfi⟩ : ∃ z, firstF f = z := ⟨_, rfl⟩
      rw [hfi] at HFI HRF
      clear hfi
      go_upto_region 15 with fail
      go_cut [8] from 65 to 70 (fun q wx => q = .bool true ∧ Hid (Below wr.heap.size wr wx))
      case first =>
        refine wp_region_mk (SPS [(4, Sp.val (.pointer (some ⟨fb, 0, none⟩))), (65, Sp.val (.agg #[.int .u32 f.id, .int .u32 f.pe, .int .i64 f.ki, .int .i64 f.fr, .int .i64 f.to, .string f.co, .int .i64 f.nu, .string f.tx])), (67, Sp.val (.agg #[.int .u32 f.id, .int .u32 f.pe, .int .i64 f.ki, .int .i64 f.fr, .int .i64 f.to, .string f.co, .int .i64 f.nu, .string f.tx])), (66, Sp.val (.int .i64 fi)), (68, Sp.val (.agg #[.int .u32 f.id, .int .u32 f.pe, .int .i64 f.ki, .int .i64 f.fr, .int .i64 f.to, .string f.co, .int .i64 f.nu, .string f.tx])), (69, Sp.val (.int .i64 fi)), (70, Sp.val (.bool true)), (8, Sp.val (.bool true))]) [] [65, 66, 67, 68, 69, 70, 8] rfl (by rfl) (by kernel_rfl) (SPS.st _) ?_ ?_ ?_ (by decide) (by rfl) ?_ (opsK_all ?_) ?_
        · exact nil_all
        · exact nil_all
        · exact nil_all
        · exact sps_start (cons_all rfl (nil_all))
        · refine opsK_cons (by
           exact kind_n (opOk_load (p := ⟨fb, 0, none⟩) rfl rfl (.inl rfl) (by kernel_rfl) (fun _ _ h => h.get rfl) (fun W hW => by
              obtain ⟨c0, c1, c2, c3, c4, c5, c6, c7⟩ := two_box (HLD.out W hW)
              exact ⟨.agg #[.int .u32 f.id, .int .u32 f.pe, .int .i64 f.ki, .int .i64 f.fr, .int .i64 f.to, .string f.co, .int .i64 f.nu, .string f.tx], by go_simp, sps rfl rfl⟩)) (by decide)) ?_
          refine opsK_cons (by
           exact kind_n (opOk_callg (fun a => #[a.eval (.tmp 65)]) rfl rfl (.inl rfl) (fun a => by simp only [List.map_toArray, List.map_cons, List.map_nil] <;> rfl) (fun args W => by go_simp) (fun a W hW hsp => by
              have e65 : a.eval (.tmp 65) = .agg #[.int .u32 f.id, .int .u32 f.pe, .int .i64 f.ki, .int .i64 f.fr, .int .i64 f.to, .string f.co, .int .i64 f.nu, .string f.tx] := (hsp 65 (by kernel_rfl)).get rfl
              simp only [e65]
              exact (HFI.out W).mono fun e w' ⟨he, hb⟩ => ⟨_, he, hb, sps rfl rfl⟩)) (by decide)) ?_
          refine opsK_cons (by
           exact kind_n (opOk_load (p := ⟨fb, 0, none⟩) rfl rfl (.inl rfl) (by kernel_rfl) (fun _ _ h => h.get rfl) (fun W hW => by
              obtain ⟨c0, c1, c2, c3, c4, c5, c6, c7⟩ := two_box (HLD.out W hW)
              exact ⟨.agg #[.int .u32 f.id, .int .u32 f.pe, .int .i64 f.ki, .int .i64 f.fr, .int .i64 f.to, .string f.co, .int .i64 f.nu, .string f.tx], by go_simp, sps rfl rfl⟩)) (by decide)) ?_
          refine opsK_cons (by
           exact kind_n (opOk_callg (fun a => #[a.eval (.tmp 67)]) rfl rfl (.inl rfl) (fun a => by simp only [List.map_toArray, List.map_cons, List.map_nil] <;> rfl) (fun args W => by go_simp) (fun a W hW hsp => by
              have e67 : a.eval (.tmp 67) = .agg #[.int .u32 f.id, .int .u32 f.pe, .int .i64 f.ki, .int .i64 f.fr, .int .i64 f.to, .string f.co, .int .i64 f.nu, .string f.tx] := (hsp 67 (by kernel_rfl)).get rfl
              simp only [e67]
              exact (HOF.out W).mono fun e w' ⟨he, hb⟩ => ⟨_, he, hb, sps rfl rfl⟩)) (by decide)) ?_
          refine opsK_cons (by
           exact kind_n (opOk_callg (fun a => #[a.eval (.tmp 68)]) rfl rfl (.inl rfl) (fun a => by simp only [List.map_toArray, List.map_cons, List.map_nil] <;> rfl) (fun args W => by go_simp) (fun a W hW hsp => by
              have e68 : a.eval (.tmp 68) = .agg #[.int .u32 f.id, .int .u32 f.pe, .int .i64 f.ki, .int .i64 f.fr, .int .i64 f.to, .string f.co, .int .i64 f.nu, .string f.tx] := (hsp 68 (by kernel_rfl)).get rfl
              simp only [e68]
              exact (HRF.out W).mono fun e w' ⟨he, hb⟩ => ⟨_, he, hb, sps rfl rfl⟩)) (by decide)) ?_
          refine opsK_cons (by
           exact kind_n (opOk_run rfl (.inl rfl) (fun a W hW hsp => by
              have e66 : a.eval (.tmp 66) = .int .i64 fi := (hsp 66 (by kernel_rfl)).get rfl
              have e69 : a.eval (.tmp 69) = .int .i64 fi := (hsp 69 (by kernel_rfl)).get rfl
              have hq : (fi == fi) = true := beq_self_eq_true _
              refine ⟨.bool true, ?_, sps rfl rfl⟩
              unfold execOp
              simp only [e66, e69]
              go_simp)) (by decide)) ?_
          refine opsK_cons (by
           exact kind_n (opOk_assign rfl rfl (.inl rfl) (by kernel_rfl) (fun _ _ h => sps rfl (h.get rfl))) (by decide)) ?_
          exact opsK_nil
        · intro vs W hb hsp _
          have z8 := (hsp 8).get rfl
          simp only [putAll]
          go_simp
          go_step
          go_meet
          exact ⟨z8, Lib.hid hb⟩
      case rest =>
        obtain ⟨rfl, HX⟩ := hcut
        go_wp2
        go_ret
        exact ⟨rfl, bTrans HBR.out HX.out⟩
end Go.Proofs.YtgheloooibafcaaGreatDoor

/- Out of: Yr4. -/
import Derived.Test.YtgepbkldgnjpfaaGreatDoorZgaf
import Derived.Test.YtgepbkldgnjpfaaGreatDoorZgag
/- year's laws: the walk of YearNets (gen/mkyr4.py). -/
namespace Go.Proofs.YtgepbkldgnjpfaaGreatDoor
open Go.RowKit Go.Sort Go.BigFrame Go.Maps

set_option maxHeartbeats 4000000 in
set_option maxRecDepth 100000 in
theorem lw_YearNets (l : List (Mon × MoA)) (A : Option Addr) (cap : Nat) (w : World) (hl : l.length ≤ 140737488355328) (hs : InMo w A l) (hT : TbP w) :
    Calls Tryz.prog 3 #[.slice A l.length cap] w fun e w' => e = .returned (.bool true) ∧ Below w.heap.size w w' := by
  obtain ⟨G, hG⟩ : ∃ g, greatB (l.map Prod.fst) = g := ⟨_, rfl⟩
  have HGR : Hid (Calls Tryz.prog 9 #[.slice A l.length cap] w fun e w' => e = .returned (.bool G) ∧ Below w.heap.size w w') := Lib.hid (by rw [← hG]; exact la_greatI l A cap w hl hs)
  have HG := Lib.hid hG
  have HS := Lib.hid hs
  have HT := Lib.hid hT
  have HAW : Hid (∀ W, Below w.heap.size w W → Calls Tryz.prog 10 #[] W fun e w' => e = .returned (.bool true) ∧ Below W.heap.size W w') := Lib.hid (fun W hW => la_awake28 W (hT.below hW))
  clear hG hs hT
  go_enter Tryz.func3, Tryz.ntmps3
  go_wp2_with fail
  refine HGR.out.mono ?_
  rintro e w1 ⟨rfl, hb1⟩
  have HB1 := Lib.hid hb1
  cases G with
  | true =>
    go_wp2_with fail
    refine (HAW.out _ HB1.out).mono ?_
    rintro e w2 ⟨rfl, hb2⟩
    go_wp2
    go_ret
    exact ⟨rfl, bTrans HB1.out hb2⟩
  | false =>
  obtain ⟨hsm, hl30⟩ := (HS.out.below hb1).ok HG.out
  obtain ⟨⟨slR, SR, eR⟩, hR⟩ : ∃ R, foldM (l.map Prod.fst) = R := ⟨_, rfl⟩
  have HFO : Hid (Calls Tryz.prog 11 #[.slice A l.length cap] w1 fun e w' => ResF (slR, SR, eR) 1572864 w1 e w') := Lib.hid (by rw [← hR]; exact yr_Fold l A cap w1 (by omega) hsm (HT.out.below hb1).tb)
  have HNP : Hid (∀ x ∈ slR, NetP x) := Lib.hid (by have h := nets_fold (l.map Prod.fst); rw [hR] at h; exact h)
  have HCN : Hid (slR.length ≤ 30) := Lib.hid (by
    have h := resGo_cnt Ste.none (l.map Prod.fst) Ste.none []
    have e : foldM (l.map Prod.fst) = resGo Ste.none Ste.none [] (l.map Prod.fst) := by unfold foldM resM; rw [if_neg (by rw [List.length_map]; omega)]
    rw [← e, hR] at h
    simp only [List.length_nil, List.length_map] at h
    omega)
  clear hb1 hsm hR
  go_wp2_with fail
  refine HFO.out.mono ?_
  rintro e w2 ⟨⟨vb, vs, vo⟩, sv, rs, hee, hrs, hos, hst, hb2⟩
  obtain ⟨m1, h1⟩ := hst.be.form
  obtain ⟨m2, h2⟩ := hst.so.form
  obtain ⟨m3, h3⟩ := hst.od.form
  dsimp only at h1 h2 h3
  subst h1 h2 h3
  obtain ⟨A3, c3, rfl, _⟩ := own_Sl encSl_len hos.1
  replace hee : e = .returned (.tuple #[.slice A3 rs.length c3, .agg #[.int .i64 SR.y, .int .i64 SR.i, .int .i64 SR.o, .map m1, .map m2, .int .i64 SR.tb, .int .i64 SR.tt, .map m3], .int .i64 eR]) := hee
  subst hee
  obtain ⟨tb4, htb⟩ : ∃ x, w2.heap.size = x := ⟨_, rfl⟩
  obtain ⟨w3, hw3⟩ : ∃ x, w2.alloc (.cells #[.int .i64 SR.y, .int .i64 SR.i, .int .i64 SR.o, .map m1, .map m2, .int .i64 SR.tb, .int .i64 SR.tt, .map m3] 33) = x := ⟨_, rfl⟩
  have g3 : Below w2.heap.size w2 w3 := by rw [← hw3]; exact bAlloc _ _
  have HOS : Hid (rs.map Prod.fst = slR ∧ OwnSl w1.heap.size (.slice A3 rs.length c3) rs w3) := Lib.hid ⟨hrs, hos.below g3⟩
  have HB3 : Hid (Below w.heap.size w w3) := Lib.hid (bTrans HB1.out (bTrans hb2 g3))
  have HWF : Hid (w2.heap.size = tb4 ∧ w2.alloc (.cells #[.int .i64 SR.y, .int .i64 SR.i, .int .i64 SR.o, .map m1, .map m2, .int .i64 SR.tb, .int .i64 SR.tt, .map m3] 33) = w3) := Lib.hid ⟨htb, hw3⟩
  clear hrs hos hst hb2 g3 htb hw3 HFO
  go_upto_region 4 with fail
  rw [HWF.out.2, HWF.out.1]
  clear HWF
  by_cases hf : eR = 0
  case neg =>
    have d1 : (eR != 0) = true := by simpa using hf
    clear hf
    go_wp2_with (go_at_call 10; refine (HAW.out _ HB3.out).mono ?_; rintro e w6 ⟨rfl, hb6⟩)
    go_ret
    exact ⟨rfl, bTrans HB3.out hb6⟩
  case pos =>
  subst hf
  have d0 : ((0 : Int) != 0) = false := rfl
  have HLR : Hid (rs.length ≤ 1000000) := Lib.hid (by
    have h := HCN.out
    rw [← HOS.out.1, List.length_map] at h
    omega)
  have hlr := HLR.out
  go_wp2_with fail
  go_loopg [6] rs.length (fun kk iv wr => ∃ (n : Nat), n + kk = rs.length ∧ iv = .int .i64 n ∧ Hid (Below w3.heap.size w3 wr))
  case atStart => exact ⟨0, Nat.zero_add _, rfl, Lib.hid (Below.refl _ _)⟩
  case round =>
    obtain ⟨n, hn1, rfl, HBR⟩ := hrel
    have HBW : Hid (Below w.heap.size w wr) := Lib.hid (bTrans HB3.out HBR.out)
    by_cases hlt : n < rs.length
    · obtain ⟨g3, cap3, he3, _, hrw3⟩ := HOS.out.2.1.row encSl_len (by intro h; simp [h] at hlt)
      have ha3 : A3 = some ⟨g3, 0, none⟩ := by injection he3
      clear he3
      subst ha3
      obtain ⟨⟨⟨y5, i5, l5⟩, A5, c5⟩, hx3⟩ : ∃ x, rs[n]? = some x := ⟨_, List.getElem?_eq_getElem hlt⟩
      have HNX : Hid (NetP (y5, i5, l5)) := Lib.hid (HNP.out _ (by rw [← HOS.out.1]; exact List.mem_map.2 ⟨_, List.mem_of_getElem? hx3, rfl⟩))
      have hfit := slpE_fit HNX.out.1
      have h448 : l5.length ≤ 448 := hfit.1
      have HFI := Lib.hid hfit.2
      have HKX : Hid (∀ W, Below wr.heap.size wr W → W.cell? ⟨g3, n * 3, none⟩ = some (.int .i64 y5) ∧ W.cell? ⟨g3, n * 3 + 1, none⟩ = some (.int .i64 i5) ∧ W.cell? ⟨g3, n * 3 + 2, none⟩ = some (.slice A5 l5.length c5)) := Lib.hid (fun W hW => by
        have r3 := hrw3.below (bTrans HBR.out hW) hrw3.lt
        exact ⟨r3.cell hx3 (j := 0) rfl, r3.cell hx3 (j := 1) rfl, r3.cell hx3 (j := 2) rfl⟩)
      have HSL : Hid (∀ W, Below wr.heap.size wr W → Sl encLi 3 W W.heap.size A5 l5) := Lib.hid (fun W hW => by
        obtain ⟨Aa, ca, h1, h2⟩ := own_Sl encLi_len (((HOS.out.2.below (bTrans HBR.out hW)).2 _ (List.mem_of_getElem? hx3)))
        injection h1 with h1
        rw [← h1] at h2
        exact h2)
      have HSZ : Hid (∀ x ∈ l5, x.2.1.size ≤ 9223372036854775807) := Lib.hid (slpE_sz HNX.out.1)
      obtain ⟨⟨vG, vH, vN, vF, vE⟩, hq⟩ : ∃ q, sumsL y5 i5 l5 = q := ⟨_, rfl⟩
      have HSU : Hid (∀ W, Below wr.heap.size wr W → Calls Tryz.prog 12 #[.agg #[.int .i64 y5, .int .i64 i5, .slice A5 l5.length c5]] W fun e w' => e = .returned (.tuple #[.int .i64 vG, .int .i64 vH, .int .i64 vN, .int .i64 vF, .int .i64 vE]) ∧ Below W.heap.size W w') := Lib.hid (fun W hW => by
        have h := sl_Sums y5 i5 l5 A5 c5 W (by omega) HSZ.out (HSL.out W hW)
        rw [hq] at h
        exact h)
      have HCK : Hid (∀ W, Below wr.heap.size wr W → Calls Tryz.prog 13 #[.agg #[.int .i64 y5, .int .i64 i5, .slice A5 l5.length c5]] W fun e w' => e = .returned (.int .i64 0) ∧ Below W.heap.size W w') := Lib.hid (fun W hW => by
        have h := sl_Check y5 i5 l5 A5 c5 W (by omega) HSZ.out (HSL.out W hW)
        rw [HNX.out.1] at h
        exact h)
      have HSB := Lib.hid (sums_bd HNX.out.1 hq)
      clear hq hx3 hrw3 hfit
      obtain ⟨q0, q1, q2⟩ := HKX.out wr (Below.refl _ _)
      go_wp2_with fail
      refine (HSU.out _ (Below.refl _ _)).mono ?_
      rintro e wx ⟨rfl, hbx⟩
      have HBX := Lib.hid hbx
      clear q0 q1 q2 hbx HSU
      go_upto_region 10 with fail
      go_cut [60] from 44 to 59 (fun a wy => a = .bool false ∧ Hid (Below wx.heap.size wx wy))
      case first =>
        obtain ⟨q0, q1, q2⟩ := HKX.out wx HBX.out
        go_wp2_with fail
        refine (HCK.out _ HBX.out).mono ?_
        rintro e wy ⟨rfl, hby⟩
        have HBY := Lib.hid hby
        clear q0 q1 q2 hby
        have d0 : ((0 : Int) != 0) = false := rfl
        by_cases hE : vE = 0
        · have hw : IntKind.i64.wrap (vH + vN) = vG := by have h := HSB.out hE; rw [IntKind.wrap_i64]; omega
          have hE1 : (vE == 0) = true := beq_iff_eq.2 hE
          have hw3 : wrap64 (vH + vN) = vG := by unfold wrap64; rw [← IntKind.wrap_i64]; exact hw
          have hE2 : (vG != wrap64 (vH + vN)) = false := by rw [hw3]; simp
          clear hw3
          clear hE hw
          go_wp2
          go_meet
          exact ⟨rfl, HBY⟩
        · have hE1 : (vE == 0) = false := beq_eq_false_iff_ne.2 hE
          clear hE
          go_wp2
          go_meet
          exact ⟨rfl, HBY⟩
      case rest =>
      obtain ⟨rfl, HBY⟩ := hcut
      rename World => wy
      replace HBY := Lib.hid (bTrans HBX.out HBY.out)
      obtain ⟨q0, q1, q2⟩ := HKX.out wy HBY.out
      have HBE : Hid (Below w3.heap.size w3 wy) := Lib.hid (bTrans HBR.out HBY.out)
      have HSY := Lib.hid (HSL.out wy HBY.out)
      have HQ0 : Hid (0 + sumQ 4 5 (l5.drop 0) = sumQ 4 5 l5) := Lib.hid (by rw [Int.zero_add]; rfl)
      obtain ⟨Q, hQ⟩ : ∃ q, sumQ 4 5 l5 = q := ⟨_, rfl⟩
      rw [hQ] at HQ0
      have HNQ : Hid (0 ≤ Q ∧ (0 < Q → 0 ≤ sumQ 0 0 l5 - sumQ 1 5 l5) ∧ Q ≤ l5.length * 1125899906842624) := Lib.hid (by rw [← hQ]; exact ⟨HNX.out.2.1, HNX.out.2.2, (sumQ_bd 4 5 l5 HFI.out).2⟩)
      clear hQ HKX HCK
      go_wp2_with fail
      go_loopg [12, 13] l5.length (fun kk bv kv wz => ∃ (m : Nat) (c : Int), m + kk = l5.length ∧ kv = .int .i64 m ∧ bv = .int .i64 c ∧ -(m * 1125899906842624 : Int) ≤ c ∧ c ≤ m * 1125899906842624 ∧ Hid (c + sumQ 4 5 (l5.drop m) = Q) ∧ wy = wz)
      case atStart => exact ⟨0, 0, Nat.zero_add _, rfl, rfl, by simp, by simp, HQ0, rfl⟩
      case round =>
        obtain ⟨m, c, hm1, rfl, rfl, hc1, hc2, HA, rfl⟩ := hrel
        by_cases hlm : m < l5.length
        · obtain ⟨b, off, rfl, hB, hc⟩ := HSY.out (by intro h; simp [h] at hlm)
          obtain ⟨⟨p, s, v⟩, hx⟩ : ∃ x, l5[m]? = some x := ⟨_, List.getElem?_eq_getElem hlm⟩
          have C0 : wy.cell? ⟨b, off + m * 3, none⟩ = some (.int .i64 p) := by simpa using hc m _ hx 0 _ rfl
          have C2 : wy.cell? ⟨b, off + m * 3 + 2, none⟩ = some (.int .i64 v) := hc m _ hx 2 _ rfl
          have hv : -1125899906842624 ≤ v ∧ v ≤ 1125899906842624 := fitB_bd (HFI.out _ (List.mem_of_getElem? hx))
          have hdrop : l5.drop m = (p, s, v) :: l5.drop (m + 1) := by
            rw [List.drop_eq_getElem_cons hlm]
            congr 1
            have := List.getElem?_eq_getElem hlm
            rw [hx] at this
            exact (Option.some.inj this).symm
          have HD : Hid (Q = c + ((if 4 ≤ p ∧ p ≤ 5 then v else 0) + sumQ 4 5 (l5.drop (m + 1)))) := Lib.hid (by rw [← HA.out, hdrop]; rfl)
          have w1 : IntKind.i64.wrap (c + v) = c + v := by rw [IntKind.wrap_i64]; omega
          clear hc hx hdrop HA
          by_cases h4 : p = 4
          · have d4 : (p == 4) = true := beq_iff_eq.2 h4
            have HE : Hid (c + v + sumQ 4 5 (l5.drop (m + 1)) = Q) := Lib.hid (by rw [HD.out, if_pos (by omega)]; omega)
            clear h4 HD
            go_wp2
            go_roundg (l5.length - (m + 1))
            case measure => omega
            case rel => exact ⟨m + 1, c + v, by omega, by go_num, rfl, by omega, by omega, HE, rfl⟩
          · have d4 : (p == 4) = false := beq_eq_false_iff_ne.2 h4
            by_cases h5 : p = 5
            · have d5 : (p == 5) = true := beq_iff_eq.2 h5
              have HE : Hid (c + v + sumQ 4 5 (l5.drop (m + 1)) = Q) := Lib.hid (by rw [HD.out, if_pos (by omega)]; omega)
              clear h4 h5 HD
              go_wp2
              go_roundg (l5.length - (m + 1))
              case measure => omega
              case rel => exact ⟨m + 1, c + v, by omega, by go_num, rfl, by omega, by omega, HE, rfl⟩
            · have d5 : (p == 5) = false := beq_eq_false_iff_ne.2 h5
              have HE : Hid (c + sumQ 4 5 (l5.drop (m + 1)) = Q) := Lib.hid (by rw [HD.out, if_neg (by omega)]; omega)
              clear h4 h5 HD
              go_wp2
              go_roundg (l5.length - (m + 1))
              case measure => omega
              case rel => exact ⟨m + 1, c, by omega, by go_num, rfl, by omega, by omega, HE, rfl⟩
        · obtain rfl : m = l5.length := by omega
          have hcQ : c = Q := by have h := HA.out; rw [List.drop_length] at h; simpa [sumQ] using h
          have hq0 : decide (c < 0) = false := decide_eq_false (by rw [hcQ]; have := HNQ.out.1; omega)
          by_cases hE : vE = 0
          · have dE : (vE == 0) = true := beq_iff_eq.2 hE
            by_cases hp : 0 < c
            · have dp : decide ((0 : Int) < c) = true := decide_eq_true hp
              have dn : decide (vN < 0) = false := decide_eq_false (by have h := HSB.out hE; have h2 := HNQ.out.2.1 (by omega); omega)
              clear hcQ hE hp HA
              go_wp2
              go_roundg (rs.length - (n + 1))
              case measure => omega
              case rel => exact ⟨n + 1, by omega, by go_num, HBE⟩
            · have dp : decide ((0 : Int) < c) = false := decide_eq_false hp
              clear hcQ hE hp HA
              go_wp2
              go_roundg (rs.length - (n + 1))
              case measure => omega
              case rel => exact ⟨n + 1, by omega, by go_num, HBE⟩
          · have dE : (vE == 0) = false := beq_eq_false_iff_ne.2 hE
            clear hcQ hE HA
            go_wp2
            go_roundg (rs.length - (n + 1))
            case measure => omega
            case rel => exact ⟨n + 1, by omega, by go_num, HBE⟩
    · obtain rfl : n = rs.length := by omega
      go_wp2_with (go_at_call 10; refine (HAW.out _ HBW.out).mono ?_; rintro e w6 ⟨rfl, hb6⟩)
      go_ret
      exact ⟨rfl, bTrans HBW.out hb6⟩
end Go.Proofs.YtgepbkldgnjpfaaGreatDoor

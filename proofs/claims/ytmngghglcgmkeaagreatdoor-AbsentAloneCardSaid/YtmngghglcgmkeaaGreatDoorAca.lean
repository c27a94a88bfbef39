import Derived.Test.YtmngghglcgmkeaaGreatDoorAbk
import Derived.Test.YtmngghglcgmkeaaGreatDoorAbv
import Derived.BigQuiet
import Derived.Deep.RegionHeld3
/- law18.AbsentAlone. Printed by gen/mkaca.py. -/
namespace Go.Proofs.YtmngghglcgmkeaaGreatDoor
open Go.RowKit Go.Sort

def farB (F U : Int) (f : Fa) : Bool := f.ki != 7 || (f.pe != 1 || (decide (U ≤ f.fr) || (f.to != 0 && decide (f.to ≤ F))))
def othS (m : List Fa) (F U : Int) (k : Nat) : List Fa := ((m.take k).filter (farB F U)).map noId
def minS (l : List Fa) (k : Nat) : List Fa := (l.take k).map noId
theorem othS_succ {m : List Fa} {k : Nat} {x : Fa} (F U : Int) (h : m[k]? = some x) : othS m F U (k + 1) = othS m F U k ++ (if farB F U x = true then [noId x] else []) := by
  unfold othS
  rw [List.take_add_one, h, Option.toList_some, List.filter_append, List.map_append]
  congr 1
  rw [List.filter_cons]
  split <;> rfl
theorem minS_succ {l : List Fa} {k : Nat} {x : Fa} (h : l[k]? = some x) : minS l (k + 1) = minS l k ++ [noId x] := by
  unfold minS
  rw [List.take_add_one, h, Option.toList_some, List.map_append]
  rfl
theorem othS_len (m : List Fa) (F U : Int) (k : Nat) : (othS m F U k).length ≤ m.length := by
  unfold othS
  rw [List.length_map]
  refine Nat.le_trans (List.length_filter_le _ _) ?_
  rw [List.length_take]
  exact Nat.min_le_right _ _
theorem minS_len {l : List Fa} {k : Nat} (h : k ≤ l.length) : (minS l k).length = k := by
  unfold minS
  rw [List.length_map, List.length_take, Nat.min_eq_left h]
theorem noId_fit {f : Fa} (h : Fit f) : Fit (noId f) := ⟨⟨Int.le_refl 0, (by decide : (0 : Int) ≤ 4294967295)⟩, h.pe, h.ki, h.fr, h.to, h.nu, h.co, h.tx⟩
theorem othS_all {m : List Fa} {F U : Int} {k : Nat} (hm : ∀ f ∈ m, f.ki ≠ 18 ∧ Fit f) : ∀ f ∈ othS m F U k, f.id = 0 ∧ f.ki ≠ 18 ∧ Fit f ∧ farF F U f := fun f hf => by
  obtain ⟨g, hg, rfl⟩ := List.mem_map.1 hf
  obtain ⟨h1, h2⟩ := List.mem_filter.1 hg
  have h3 := hm g (List.mem_of_mem_take h1)
  refine ⟨rfl, h3.1, noId_fit h3.2, ?_⟩
  unfold farB at h2
  show g.ki ≠ 7 ∨ g.pe ≠ 1 ∨ U ≤ g.fr ∨ (g.to ≠ 0 ∧ g.to ≤ F)
  simpa using h2
theorem minS_all {m : List Fa} {k : Nat} (hm : ∀ f ∈ m, f.ki ≠ 18 ∧ Fit f) : ∀ f ∈ minS m k, f.id = 0 ∧ f.ki ≠ 18 ∧ Fit f := fun f hf => by
  obtain ⟨g, hg, rfl⟩ := List.mem_map.1 hf
  have h3 := hm g (List.mem_of_mem_take hg)
  exact ⟨rfl, h3.1, noId_fit h3.2⟩
/-- What a row of facts of one's own says. -/
theorem own_sf {B : Nat} {v : Value} {l : List Fa} {w : World} (h : Own encF 8 26 B v l w) : ∃ A c, v = .slice A l.length c ∧ SlF w A l := by
  obtain ⟨A, c, h1, _, h2⟩ := own_sl encF_len h
  exact ⟨A, c, h1, h2⟩
theorem eqSp (a b : Int) (w : World) : (binOp .neq 28 (.agg #[.int .i64 a, .int .i64 b]) (.agg #[.int .i64 a, .int .i64 b])).run Tryz.prog w = .ok (.bool false) w := by
  go_simp
theorem qu_at {X Y : List Ab} {i : Nat} {x y : Ab} (h : X.map quA = Y.map quA) (hx : X[i]? = some x) (hy : Y[i]? = some y) : x.fr = y.fr ∧ x.to = y.to ∧ x.ki = y.ki ∧ x.pa = y.pa := by
  have h1 : (X.map quA)[i]? = some (quA x) := by rw [List.getElem?_map, hx]; rfl
  have h2 : (Y.map quA)[i]? = some (quA y) := by rw [List.getElem?_map, hy]; rfl
  rw [h, h2] at h1
  injection h1 with h1
  unfold quA at h1
  injection h1 with a b
  injection b with b c
  injection c with c d
  exact ⟨a.symm, b.symm, c.symm, d.symm⟩

set_option maxHeartbeats 8000000 in
set_option maxRecDepth 100000 in
theorem lw_AbsentAlone (l : List Fa) (A : Option Addr) (ca : Nat) (m : List Fa) (Am : Option Addr) (cm : Nat) (F U : Int) (w : World) (hl : l.length ≤ 9223372036854775807) (fl : ∀ f ∈ l, FitW f) (hL : SlF w A l) (hml : m.length ≤ 9223372036854775807) (fm : ∀ f ∈ m, FitW f) (hM : SlF w Am m) (hF : -9223372036854775808 ≤ F ∧ F ≤ 9223372036854775807) (hU : -9223372036854775808 ≤ U ∧ U ≤ 9223372036854775807) (hT : Tb w) (hC : Tab w) :
    Calls Tryz.prog 4 #[.slice A l.length ca, .slice Am m.length cm, .agg #[.int .i64 F, .int .i64 U]] w fun e w' => e = .returned (.bool true) ∧ Below w.heap.size w w' := by
  have HAW : Hid (∀ W, Below w.heap.size w W → Calls Tryz.prog 8 #[] W fun e w' => e = .returned (.bool true) ∧ Below W.heap.size W w') := Lib.hid fun W hW => la_awake18 W (hT.below hW) (tabW hC hW)
  obtain ⟨sb, hsb⟩ : ∃ z, w.heap.size = z := ⟨_, rfl⟩
  obtain ⟨w2, hw2⟩ : ∃ z, w.alloc (.cells #[.int .i64 F, .int .i64 U] 28) = z := ⟨_, rfl⟩
  have hb2 : Below w.heap.size w w2 := by rw [← hw2]; exact bAlloc _ _
  have HB2 := Lib.hid hb2
  have HKS : Hid (Bk sb 28 #[.int .i64 F, .int .i64 U] w2) := Lib.hid (by rw [← hw2, ← hsb]; exact Bk.new _ _ _)
  have HSC : Hid (∀ W, Below w2.heap.size w2 W → W.cell? ⟨sb, 0, none⟩ = some (.int .i64 F) ∧ W.cell? ⟨sb, 1, none⟩ = some (.int .i64 U)) := Lib.hid fun W hW => ⟨bCell hW (HKS.out.cell 0), bCell hW (HKS.out.cell 1)⟩
  have HFE := Lib.hid (la_few l A ca w2 hl (hL.below hb2))
  have HFE2 : Hid (∀ W, Below w2.heap.size w2 W → _) := Lib.hid fun W (hW : Below w2.heap.size w2 W) => la_few m Am cm W hml ((hM.below hb2).below hW)
  have HLO := Lib.hid (fun W => la_long F U 500 W hF hU (by omega))
  have HFI : Hid (∀ (h : ∀ f ∈ l, f.ki ≠ 18 ∧ f.co.size ≤ 300 ∧ f.tx.size ≤ 300), ∀ f ∈ l, Fit f) := Lib.hid fun h => few_fit fl h
  have HFJ : Hid (∀ (h : ∀ f ∈ m, f.ki ≠ 18 ∧ f.co.size ≤ 300 ∧ f.tx.size ≤ 300), ∀ f ∈ m, Fit f) := Lib.hid fun h => few_fit fm h
  have HTT := Lib.hid hT
  have HLS : Hid (∀ W, Below w2.heap.size w2 W → SlF W A l) := Lib.hid fun W hW => (hL.below hb2).below hW
  have HMS : Hid (∀ W, Below w2.heap.size w2 W → SlF W Am m) := Lib.hid fun W hW => (hM.below hb2).below hW
  have HE := Lib.hid (And.intro hsb hw2)
  clear hsb hw2 hb2 hT hC hL fl fm hM
  go_enter Tryz.func4, Tryz.ntmps4
  go_upto_region 1 with fail
  rw [HE.out.1, HE.out.2]
  clear HE
  go_wp2_with fail
  refine HFE.out.mono ?_
  rintro e w3 ⟨fw, rfl, hfw, hb3⟩
  have HB3 := Lib.hid hb3
  have HFW := Lib.hid hfw
  clear hb3 hfw HFE
  cases fw with
  | false =>
    go_wp2_with fail
    refine (HAW.out _ (bTrans HB2.out HB3.out)).mono ?_
    rintro e w4 ⟨rfl, hb4⟩
    have HF := Lib.hid (bTrans HB2.out (bTrans HB3.out hb4))
    clear hb4
    go_wp2
    go_ret
    exact ⟨rfl, HF.out⟩
  | true =>
    have HFW1 := Lib.hid (HFW.out rfl)
    have HFE3 := Lib.hid (HFE2.out w3 HB3.out)
    clear HFW HFE2
    go_wp2_with fail
    refine HFE3.out.mono ?_
    rintro e w4 ⟨fw, rfl, hfw, hb4⟩
    have HB4 := Lib.hid (bTrans HB3.out hb4)
    have HFW := Lib.hid hfw
    clear hb4 hfw HFE3
    cases fw with
    | false =>
      go_wp2_with fail
      refine (HAW.out _ (bTrans HB2.out HB4.out)).mono ?_
      rintro e w5 ⟨rfl, hb5⟩
      have HF := Lib.hid (bTrans HB2.out (bTrans HB4.out hb5))
      clear hb5
      go_wp2
      go_ret
      exact ⟨rfl, HF.out⟩
    | true =>
      have HFW2 := Lib.hid (HFW.out rfl)
      obtain ⟨S0, S1⟩ := HSC.out _ HB4.out
      have HLO3 := Lib.hid (HLO.out w4)
      clear HFW HLO
      go_wp2_with fail
      refine HLO3.out.mono ?_
      rintro e w5 ⟨lb, rfl, hlb, hb5⟩
      have HB5 := Lib.hid (bTrans HB4.out hb5)
      have HLB := Lib.hid hlb
      clear hb5 hlb HLO3 S0 S1
      obtain ⟨S0, S1⟩ := HSC.out _ HB5.out
      have HAW5 := Lib.hid (HAW.out _ (bTrans HB2.out HB5.out))
      obtain ⟨b2, e2⟩ : ∃ b, decide (F < -25567) = b := ⟨_, rfl⟩
      obtain ⟨b3, e3⟩ : ∃ b, decide (84006 < U) = b := ⟨_, rfl⟩
      by_cases hbad : lb = true ∨ b2 = true ∨ b3 = true
      · have hcs2 : lb = true ∨ (lb = false ∧ b2 = true) ∨ (lb = false ∧ b2 = false ∧ b3 = true) := by
          cases lb <;> cases b2 <;> cases b3 <;> simp at hbad ⊢
        clear hbad HLB
        rcases hcs2 with rfl | ⟨rfl, rfl⟩ | ⟨rfl, rfl, rfl⟩
        all_goals
          go_wp2_with fail
          refine HAW5.out.mono ?_
          rintro e w6 ⟨rfl, hb6⟩
          have HF := Lib.hid (bTrans HB2.out (bTrans HB5.out hb6))
          clear hb6
          go_wp2
          go_ret
          exact ⟨rfl, HF.out⟩
      obtain ⟨rfl, rfl, rfl⟩ : lb = false ∧ b2 = false ∧ b3 = false := by
        cases lb <;> cases b2 <;> cases b3 <;> simp at hbad ⊢
      have HFU := Lib.hid (HLB.out rfl)
      have hF1 : -25567 ≤ F := by have := of_decide_eq_false e2; omega
      have hU1 : U ≤ 84006 := by have := of_decide_eq_false e3; omega
      have HFL := Lib.hid (HFI.out HFW1.out.1)
      have HFM := Lib.hid (HFJ.out HFW2.out.1)
      have HLM : Hid (∀ f ∈ m, f.ki ≠ 18 ∧ Fit f) := Lib.hid fun f hf => ⟨(HFW2.out.1 f hf).1, HFM.out f hf⟩
      have HLL : Hid (∀ f ∈ l, f.ki ≠ 18 ∧ Fit f) := Lib.hid fun f hf => ⟨(HFW1.out.1 f hf).1, HFL.out f hf⟩
      have hl30 := HFW1.out.2
      have hm30 := HFW2.out.2
      clear hbad HLB HFI HFJ HFL HFM HAW5
      go_wp2_with fail
      clear S0 S1 e2 e3
      go_loopw [7, 47] (fun ov iv wr => ∃ k : Nat, k ≤ m.length ∧ iv = .int .i64 k ∧ (∃ A7 c7, ov = .slice A7 (othS m F U k).length c7 ∧ Hid (Own encF 8 26 w5.heap.size (.slice A7 (othS m F U k).length c7) (othS m F U k) wr)) ∧ Hid (Below w5.heap.size w5 wr)) (fun _ iv _ => m.length - (intOf iv).toNat)
      case atStart => exact ⟨0, Nat.zero_le _, rfl, ⟨none, 0, rfl, Lib.hid (Own.nil _)⟩, Lib.hid (Below.refl _ _)⟩
      case round =>
        obtain ⟨k, hk, rfl, ⟨A7, c7, rfl, HO⟩, HB⟩ := hrel
        obtain ⟨wo, hwo⟩ : ∃ x : World, x = wr := ⟨_, rfl⟩
        subst hwo
        have HBW : Hid (Below w2.heap.size w2 wo) := Lib.hid (bTrans HB5.out HB.out)
        by_cases hlt : k < m.length
        · obtain ⟨x, hx⟩ : ∃ x, m[k]? = some x := ⟨_, List.getElem?_eq_getElem hlt⟩
          obtain ⟨g, o, rfl, _, hat⟩ := HMS.out _ HBW.out (by intro h; simp [h] at hlt)
          have h := hat k _ hx
          have C0 : wo.cell? ⟨g, o + k * 8, none⟩ = some (.int .u32 x.id) := h 0 _ rfl
          have C1 : wo.cell? ⟨g, o + k * 8 + 1, none⟩ = some (.int .u32 x.pe) := h 1 _ rfl
          have C2 : wo.cell? ⟨g, o + k * 8 + 2, none⟩ = some (.int .i64 x.ki) := h 2 _ rfl
          have C3 : wo.cell? ⟨g, o + k * 8 + 3, none⟩ = some (.int .i64 x.fr) := h 3 _ rfl
          have C4 : wo.cell? ⟨g, o + k * 8 + 4, none⟩ = some (.int .i64 x.to) := h 4 _ rfl
          have C5 : wo.cell? ⟨g, o + k * 8 + 5, none⟩ = some (.string x.co) := h 5 _ rfl
          have C6 : wo.cell? ⟨g, o + k * 8 + 6, none⟩ = some (.int .i64 x.nu) := h 6 _ rfl
          have C7 : wo.cell? ⟨g, o + k * 8 + 7, none⟩ = some (.string x.tx) := h 7 _ rfl
          clear h hat
          have HOS := Lib.hid (othS_succ F U hx)
          have hSl : (othS m F U k).length ≤ m.length := othS_len m F U k
          obtain ⟨S, hS⟩ : ∃ S, othS m F U k = S := ⟨_, rfl⟩
          rw [hS] at HO HOS hSl
          rw [hS]
          obtain ⟨xid, xpe, xki, xfr, xto, xco, xnu, xtx⟩ := x
          simp only at C0 C1 C2 C3 C4 C5 C6 C7
          obtain ⟨fb, hfb⟩ : ∃ z, wo.heap.size = z := ⟨_, rfl⟩
          obtain ⟨w6, hw6⟩ : ∃ z, wo.alloc (.cells #[.int .u32 xid, .int .u32 xpe, .int .i64 xki, .int .i64 xfr, .int .i64 xto, .string xco, .int .i64 xnu, .string xtx] 26) = z := ⟨_, rfl⟩
          have hk6 : Bk fb 26 #[.int .u32 xid, .int .u32 xpe, .int .i64 xki, .int .i64 xfr, .int .i64 xto, .string xco, .int .i64 xnu, .string xtx] w6 := by rw [← hw6, ← hfb]; exact Bk.new _ _ _
          have hb6 : Below wo.heap.size wo w6 := by rw [← hw6]; exact bAlloc _ _
          have HK6 := Lib.hid hk6
          have HB6 := Lib.hid hb6
          have HFB : Hid (wo.heap.size ≤ fb) := Lib.hid (Nat.le_of_eq hfb)
          have HE := Lib.hid (And.intro hfb hw6)
          clear hx hS hfb hw6 hb6 hk6
          go_upto_region 7 with fail
          rw [HE.out.1, HE.out.2]
          clear HE C0 C1 C2 C3 C4 C5 C6 C7
          have D1 : w6.cell? ⟨fb, 1, none⟩ = some (.int .u32 xpe) := HK6.out.cell 1
          have D2 : w6.cell? ⟨fb, 2, none⟩ = some (.int .i64 xki) := HK6.out.cell 2
          have D3 : w6.cell? ⟨fb, 3, none⟩ = some (.int .i64 xfr) := HK6.out.cell 3
          have D4 : w6.cell? ⟨fb, 4, none⟩ = some (.int .i64 xto) := HK6.out.cell 4
          obtain ⟨S0, S1⟩ := HSC.out _ (bTrans HBW.out HB6.out)
          obtain ⟨fv, hfv⟩ : ∃ b, farB F U ⟨xid, xpe, xki, xfr, xto, xco, xnu, xtx⟩ = b := ⟨_, rfl⟩
          rw [hfv] at HOS
          have HFV : Hid ((xki != 7 || (xpe != 1 || (decide (U ≤ xfr) || (xto != 0 && decide (xto ≤ F))))) = fv) := Lib.hid hfv
          clear hfv
          go_cut [77] from 51 to 77 (fun v wx => v = .bool fv ∧ w6 = wx)
          case first =>
            obtain ⟨b1, d1⟩ : ∃ z, (xki != 7) = z := ⟨_, rfl⟩
            obtain ⟨b2, d2⟩ : ∃ z, (xpe != 1) = z := ⟨_, rfl⟩
            obtain ⟨b3, d3⟩ : ∃ z, decide (U ≤ xfr) = z := ⟨_, rfl⟩
            obtain ⟨b4, d4⟩ : ∃ z, (xto != 0) = z := ⟨_, rfl⟩
            obtain ⟨b5, d5⟩ : ∃ z, decide (xto ≤ F) = z := ⟨_, rfl⟩
            rw [d1, d2, d3, d4, d5] at HFV
            cases b1
            cases b2
            cases b3
            cases b4
            rotate_left 1
            cases b5
            all_goals
              obtain rfl := HFV.out
              clear HFV
              go_wp2
              go_meet
              exact ⟨rfl, rfl⟩
          case rest =>
          obtain ⟨rfl, rfl⟩ := hcut
          clear HFV D1 D2 D3 D4 S0 S1
          cases fv with
          | false =>
            have HOS2 : Hid (othS m F U (k + 1) = S) := Lib.hid (by rw [HOS.out, if_neg (by simp), List.append_nil])
            have HON : Hid (Own encF 8 26 w5.heap.size (.slice A7 S.length c7) S w6) := Lib.hid (own_bel HO.out HB6.out)
            have HBN := Lib.hid (bTrans HB.out HB6.out)
            clear HO HB6 HK6 HOS
            go_wp2
            exact ⟨⟨k + 1, by omega, by go_num, ⟨A7, c7, by rw [HOS2.out], by rw [HOS2.out]; exact HON⟩, HBN⟩, by simp [intOf]; omega⟩
          | true =>
            have HOS2 : Hid (othS m F U (k + 1) = S ++ [⟨0, xpe, xki, xfr, xto, xco, xnu, xtx⟩]) := Lib.hid (by rw [HOS.out, if_pos rfl]; rfl)
            clear HOS
            have F0 : w6.cell? ⟨fb, 0, none⟩ = some (.int .u32 xid) := HK6.out.cell 0
            have G0 : w6.frozen? ⟨fb, 0, none⟩ = false := HK6.out.frozen 0
            obtain ⟨w7, hw7⟩ : ∃ z, w6.setCell ⟨fb, 0, none⟩ (.int .u32 0) = z := ⟨_, rfl⟩
            have hk7 : Bk fb 26 #[.int .u32 0, .int .u32 xpe, .int .i64 xki, .int .i64 xfr, .int .i64 xto, .string xco, .int .i64 xnu, .string xtx] w7 := by rw [← hw7]; exact HK6.out.set_ 0 (.int .u32 0)
            have HB7 : Hid (Below wo.heap.size wo w7) := Lib.hid (by rw [← hw7]; exact HB6.out.setCell (p := ⟨fb, 0, none⟩) HFB.out _)
            have K0 : w7.cell? ⟨fb, 0, none⟩ = some (.int .u32 0) := hk7.cell 0
            have K1 : w7.cell? ⟨fb, 1, none⟩ = some (.int .u32 xpe) := hk7.cell 1
            have K2 : w7.cell? ⟨fb, 2, none⟩ = some (.int .i64 xki) := hk7.cell 2
            have K3 : w7.cell? ⟨fb, 3, none⟩ = some (.int .i64 xfr) := hk7.cell 3
            have K4 : w7.cell? ⟨fb, 4, none⟩ = some (.int .i64 xto) := hk7.cell 4
            have K5 : w7.cell? ⟨fb, 5, none⟩ = some (.string xco) := hk7.cell 5
            have K6 : w7.cell? ⟨fb, 6, none⟩ = some (.int .i64 xnu) := hk7.cell 6
            have K7 : w7.cell? ⟨fb, 7, none⟩ = some (.string xtx) := hk7.cell 7
            have HOV : Hid (Own encF 8 26 w5.heap.size (.slice A7 S.length c7) S w7) := Lib.hid (own_bel HO.out HB7.out)
            have HNW : Hid (∀ j u, (encF ⟨0, xpe, xki, xfr, xto, xco, xnu, xtx⟩)[j]? = some u → (w7.alloc (.cells #[.int .u32 0, .int .u32 xpe, .int .i64 xki, .int .i64 xfr, .int .i64 xto, .string xco, .int .i64 xnu, .string xtx] 26)).cell? ⟨w7.heap.size, j, none⟩ = some u) := Lib.hid fun j u hu => by
              rw [(Bk.new w7 _ _).cell j]
              simpa [encF] using hu
            have HSZ : Hid (w5.heap.size ≤ w7.heap.size) := Lib.hid (bTrans HB.out HB7.out).size
            have HE := Lib.hid hw7
            clear hw7 hk7 HO HK6 HB6 HFB
            go_upto_region 9 with fail
            rw [HE.out]
            clear HE F0 G0
            go_wp2_with ((at_builtin; refine wpList_append_row encF_len encF_one rfl _ _ 22 rfl w5.heap.size 26 _ 72 Tryz.underlying22 factInfo rfl (by decide) _ S ⟨0, xpe, xki, xfr, xto, xco, xnu, xtx⟩ rfl (HOV.out.alloc _) w7.heap.size 1 rfl HNW.out (by omega) (by decide) (Nat.le_trans HSZ.out (Grows.of_alloc w7 _).size) ?_))
            intro v8 w8 hown8 hgr8
            have HB8 : Hid (Below w5.heap.size w5 w8) := Lib.hid (bel_own (bTrans HB.out (bTrans HB7.out (bAlloc w7 _))) (Nat.le_trans HSZ.out (Grows.of_alloc w7 _).size) (HOV.out.alloc _) hgr8)
            obtain ⟨A8, c8, e8, _⟩ := own_sf hown8
            subst e8
            have HO8 := Lib.hid hown8
            clear hown8 hgr8 K0 K1 K2 K3 K4 K5 K6 K7 HOV HNW
            go_wp2
            exact ⟨⟨k + 1, by omega, by go_num, ⟨A8, c8, by rw [HOS2.out], by rw [HOS2.out]; exact HO8⟩, HB8⟩, by simp [intOf]; omega⟩
        · obtain rfl : k = m.length := by omega
          have hOl := othS_len m F U m.length
          have hOa := othS_all (F := F) (U := U) (k := m.length) HLM.out
          obtain ⟨O, hO⟩ : ∃ O, othS m F U m.length = O := ⟨_, rfl⟩
          rw [hO] at HO hOl hOa
          rw [hO]
          have HOA := Lib.hid hOa
          obtain ⟨w9, rfl⟩ : ∃ x : World, x = wo := ⟨_, rfl⟩
          obtain ⟨A6, rfl⟩ : ∃ x, x = A7 := ⟨_, rfl⟩
          obtain ⟨c6, rfl⟩ : ∃ x, x = c7 := ⟨_, rfl⟩
          have HOO := HO
          have HB29 := HBW
          clear hO hOa hlt HO HB HBW hk
          go_wp2
          go_loopw [10, 86] (fun ov iv wr => ∃ k : Nat, k ≤ l.length ∧ iv = .int .i64 k ∧ (∃ A7 c7, ov = .slice A7 (minS l k).length c7 ∧ Hid (Own encF 8 26 w9.heap.size (.slice A7 (minS l k).length c7) (minS l k) wr)) ∧ Hid (Below w9.heap.size w9 wr)) (fun _ iv _ => l.length - (intOf iv).toNat)
          case atStart => exact ⟨0, Nat.zero_le _, rfl, ⟨none, 0, rfl, Lib.hid (Own.nil _)⟩, Lib.hid (Below.refl _ _)⟩
          case round =>
            obtain ⟨k, hk, rfl, ⟨A7, c7, rfl, HO⟩, HB⟩ := hrel
            obtain ⟨wo, hwo⟩ : ∃ x : World, x = wr := ⟨_, rfl⟩
            subst hwo
            have HBW : Hid (Below w2.heap.size w2 wo) := Lib.hid (bTrans HB29.out HB.out)
            by_cases hlt : k < l.length
            · obtain ⟨x, hx⟩ : ∃ x, l[k]? = some x := ⟨_, List.getElem?_eq_getElem hlt⟩
              obtain ⟨g, o, rfl, _, hat⟩ := HLS.out _ HBW.out (by intro h; simp [h] at hlt)
              have h := hat k _ hx
              have C0 : wo.cell? ⟨g, o + k * 8, none⟩ = some (.int .u32 x.id) := h 0 _ rfl
              have C1 : wo.cell? ⟨g, o + k * 8 + 1, none⟩ = some (.int .u32 x.pe) := h 1 _ rfl
              have C2 : wo.cell? ⟨g, o + k * 8 + 2, none⟩ = some (.int .i64 x.ki) := h 2 _ rfl
              have C3 : wo.cell? ⟨g, o + k * 8 + 3, none⟩ = some (.int .i64 x.fr) := h 3 _ rfl
              have C4 : wo.cell? ⟨g, o + k * 8 + 4, none⟩ = some (.int .i64 x.to) := h 4 _ rfl
              have C5 : wo.cell? ⟨g, o + k * 8 + 5, none⟩ = some (.string x.co) := h 5 _ rfl
              have C6 : wo.cell? ⟨g, o + k * 8 + 6, none⟩ = some (.int .i64 x.nu) := h 6 _ rfl
              have C7 : wo.cell? ⟨g, o + k * 8 + 7, none⟩ = some (.string x.tx) := h 7 _ rfl
              clear h hat
              have HOS := Lib.hid (minS_succ hx)
              have hSl : (minS l k).length ≤ k := Nat.le_of_eq (minS_len hk)
              obtain ⟨S, hS⟩ : ∃ S, minS l k = S := ⟨_, rfl⟩
              rw [hS] at HO HOS hSl
              rw [hS]
              obtain ⟨xid, xpe, xki, xfr, xto, xco, xnu, xtx⟩ := x
              simp only at C0 C1 C2 C3 C4 C5 C6 C7
              obtain ⟨fb, hfb⟩ : ∃ z, wo.heap.size = z := ⟨_, rfl⟩
              obtain ⟨w6, hw6⟩ : ∃ z, wo.alloc (.cells #[.int .u32 xid, .int .u32 xpe, .int .i64 xki, .int .i64 xfr, .int .i64 xto, .string xco, .int .i64 xnu, .string xtx] 26) = z := ⟨_, rfl⟩
              have hk6 : Bk fb 26 #[.int .u32 xid, .int .u32 xpe, .int .i64 xki, .int .i64 xfr, .int .i64 xto, .string xco, .int .i64 xnu, .string xtx] w6 := by rw [← hw6, ← hfb]; exact Bk.new _ _ _
              have hb6 : Below wo.heap.size wo w6 := by rw [← hw6]; exact bAlloc _ _
              have HK6 := Lib.hid hk6
              have HB6 := Lib.hid hb6
              have HFB : Hid (wo.heap.size ≤ fb) := Lib.hid (Nat.le_of_eq hfb)
              have HE := Lib.hid (And.intro hfb hw6)
              clear hx hS hfb hw6 hb6 hk6
              go_upto_region 15 with fail
              rw [HE.out.1, HE.out.2]
              clear HE C0 C1 C2 C3 C4 C5 C6 C7
              have HOS2 : Hid (minS l (k + 1) = S ++ [⟨0, xpe, xki, xfr, xto, xco, xnu, xtx⟩]) := Lib.hid (by rw [HOS.out]; rfl)
              clear HOS
              have F0 : w6.cell? ⟨fb, 0, none⟩ = some (.int .u32 xid) := HK6.out.cell 0
              have G0 : w6.frozen? ⟨fb, 0, none⟩ = false := HK6.out.frozen 0
              obtain ⟨w7, hw7⟩ : ∃ z, w6.setCell ⟨fb, 0, none⟩ (.int .u32 0) = z := ⟨_, rfl⟩
              have hk7 : Bk fb 26 #[.int .u32 0, .int .u32 xpe, .int .i64 xki, .int .i64 xfr, .int .i64 xto, .string xco, .int .i64 xnu, .string xtx] w7 := by rw [← hw7]; exact HK6.out.set_ 0 (.int .u32 0)
              have HB7 : Hid (Below wo.heap.size wo w7) := Lib.hid (by rw [← hw7]; exact HB6.out.setCell (p := ⟨fb, 0, none⟩) HFB.out _)
              have K0 : w7.cell? ⟨fb, 0, none⟩ = some (.int .u32 0) := hk7.cell 0
              have K1 : w7.cell? ⟨fb, 1, none⟩ = some (.int .u32 xpe) := hk7.cell 1
              have K2 : w7.cell? ⟨fb, 2, none⟩ = some (.int .i64 xki) := hk7.cell 2
              have K3 : w7.cell? ⟨fb, 3, none⟩ = some (.int .i64 xfr) := hk7.cell 3
              have K4 : w7.cell? ⟨fb, 4, none⟩ = some (.int .i64 xto) := hk7.cell 4
              have K5 : w7.cell? ⟨fb, 5, none⟩ = some (.string xco) := hk7.cell 5
              have K6 : w7.cell? ⟨fb, 6, none⟩ = some (.int .i64 xnu) := hk7.cell 6
              have K7 : w7.cell? ⟨fb, 7, none⟩ = some (.string xtx) := hk7.cell 7
              have HOV : Hid (Own encF 8 26 w9.heap.size (.slice A7 S.length c7) S w7) := Lib.hid (own_bel HO.out HB7.out)
              have HNW : Hid (∀ j u, (encF ⟨0, xpe, xki, xfr, xto, xco, xnu, xtx⟩)[j]? = some u → (w7.alloc (.cells #[.int .u32 0, .int .u32 xpe, .int .i64 xki, .int .i64 xfr, .int .i64 xto, .string xco, .int .i64 xnu, .string xtx] 26)).cell? ⟨w7.heap.size, j, none⟩ = some u) := Lib.hid fun j u hu => by
                rw [(Bk.new w7 _ _).cell j]
                simpa [encF] using hu
              have HSZ : Hid (w9.heap.size ≤ w7.heap.size) := Lib.hid (bTrans HB.out HB7.out).size
              have HE := Lib.hid hw7
              clear hw7 hk7 HO HK6 HB6 HFB
              go_upto_region 16 with fail
              rw [HE.out]
              clear HE F0 G0
              go_wp2_with ((at_builtin; refine wpList_append_row encF_len encF_one rfl _ _ 22 rfl w9.heap.size 26 _ 72 Tryz.underlying22 factInfo rfl (by decide) _ S ⟨0, xpe, xki, xfr, xto, xco, xnu, xtx⟩ rfl (HOV.out.alloc _) w7.heap.size 1 rfl HNW.out (by omega) (by decide) (Nat.le_trans HSZ.out (Grows.of_alloc w7 _).size) ?_))
              intro v8 w8 hown8 hgr8
              have HB8 : Hid (Below w9.heap.size w9 w8) := Lib.hid (bel_own (bTrans HB.out (bTrans HB7.out (bAlloc w7 _))) (Nat.le_trans HSZ.out (Grows.of_alloc w7 _).size) (HOV.out.alloc _) hgr8)
              obtain ⟨A8, c8, e8, _⟩ := own_sf hown8
              subst e8
              have HO8 := Lib.hid hown8
              clear hown8 hgr8 K0 K1 K2 K3 K4 K5 K6 K7 HOV HNW
              go_wp2
              exact ⟨⟨k + 1, by omega, by go_num, ⟨A8, c8, by rw [HOS2.out], by rw [HOS2.out]; exact HO8⟩, HB8⟩, by simp [intOf]; omega⟩
            · obtain rfl : k = l.length := by omega
              have hNl : (minS l l.length).length ≤ 30 := by rw [minS_len (Nat.le_refl _)]; exact hl30
              have hNa := minS_all (k := l.length) HLL.out
              obtain ⟨N, hN⟩ : ∃ N, minS l l.length = N := ⟨_, rfl⟩
              rw [hN] at HO hNl hNa
              rw [hN]
              have HNA := Lib.hid hNa
              obtain ⟨wb, rfl⟩ : ∃ x : World, x = wo := ⟨_, rfl⟩
              have HON : Hid (Own encF 8 26 w9.heap.size (.slice A7 N.length c7) N wb) := HO
              have HOb : Hid (Own encF 8 26 w5.heap.size (.slice A6 O.length c6) O wb) := Lib.hid (own_bel HOO.out HB.out)
              have HBb : Hid (Below w.heap.size w wb) := Lib.hid (bTrans HB2.out HBW.out)
              have HTD : Hid (∀ W, Below wb.heap.size wb W → Calls Tryz.prog 9 #[.slice A7 N.length c7, .int .u32 1] W (TolR N 1 W)) := Lib.hid fun W hW => by
                obtain ⟨A', c', e1, h1⟩ := own_sf (own_bel HON.out hW)
                injection e1 with e1 _ _
                rw [e1]
                exact la_told18 N A' c7 1 W (by omega) (fun f hf => (HNA.out f hf).2.2) h1 (HTT.out.below (bTrans HBb.out hW))
              have HTD1 := Lib.hid (HTD.out wb (Below.refl _ _))
              have HLAW : Hid ((absX (kA (tellL [] (O ++ N)) 1) F U).map quA = (absX (kA (tellL [] N) 1) F U).map quA) := Lib.hid (alone_law (fun f hf => by
                rcases List.mem_append.1 hf with h | h
                · exact ⟨(HOA.out f h).1, (HOA.out f h).2.1⟩
                · exact ⟨(HNA.out f h).1, (HNA.out f h).2.1⟩) (by omega) (fun f hf => (HOA.out f hf).2.2.2))
              obtain ⟨T1, hT1⟩ : ∃ T, tellL [] N = T := ⟨_, rfl⟩
              have hT1l : T1.length ≤ 30 := by rw [← hT1]; exact Nat.le_trans (told_le N) (by omega)
              rw [hT1] at HLAW
              have HT1 := Lib.hid hT1
              have HSCb := Lib.hid (bShift HSC.out HBW.out)
              clear hN hNa hlt HO HB HBW HOO hk HTD hT1
              go_wp2_with fail
              refine HTD1.out.mono ?_
              rintro e wd ⟨⟨A1, c1, Ax, cx, rfl, hc1, hsd, _⟩, hbd⟩
              rw [HT1.out] at hc1 hsd ⊢
              obtain ⟨mn, hmn⟩ : ∃ n, (toMs 1 T1).length = n := ⟨_, rfl⟩
              rw [hmn]
              obtain ⟨bb, hbb⟩ : ∃ z, wd.heap.size = z := ⟨_, rfl⟩
              obtain ⟨we, hwe⟩ : ∃ z, wd.alloc (.cells #[.slice A1 T1.length c1] 33) = z := ⟨_, rfl⟩
              have hbde : Below wd.heap.size wd we := by rw [← hwe]; exact bAlloc _ _
              have HKE : Hid (Bk bb 33 #[.slice A1 T1.length c1] we) := Lib.hid (by rw [← hwe, ← hbb]; exact Bk.new _ _ _)
              have HBE : Hid (Below wb.heap.size wb we) := Lib.hid (bTrans hbd hbde)
              have HSE : Hid (SlF we A1 T1 ∧ T1.length ≤ c1) := Lib.hid ⟨hsd.below hbde, hc1⟩
              have HE := Lib.hid (And.intro hbb hwe)
              have HOe : Hid (Own encF 8 26 w5.heap.size (.slice A6 O.length c6) O we) := Lib.hid (own_bel HOb.out HBE.out)
              have HNe : Hid (Own encF 8 26 w9.heap.size (.slice A7 N.length c7) N we) := Lib.hid (own_bel HON.out HBE.out)
              clear hmn hbb hwe hbd hbde hsd hc1 HTD1 HOb HON
              go_upto_region 19 with fail
              rw [HE.out.1, HE.out.2]
              clear HE
              obtain ⟨wf, hwf⟩ : ∃ z, we.alloc (.cells #[] 26) = z := ⟨_, rfl⟩
              obtain ⟨eb, heb⟩ : ∃ z, we.heap.size = z := ⟨_, rfl⟩
              have hbef : Below we.heap.size we wf := by rw [← hwf]; exact bAlloc _ _
              have HZF : Hid (Own encF 8 26 we.heap.size (.slice (some ⟨eb, 0, none⟩) 0 0) [] wf) := Lib.hid (by rw [← hwf, ← heb]; exact own_empty (Bk.new we _ #[]) (Nat.le_refl _))
              have HOf : Hid (Own encF 8 26 w5.heap.size (.slice A6 O.length c6) O wf) := Lib.hid (own_bel HOe.out hbef)
              have HBF := Lib.hid hbef
              have HE := Lib.hid (And.intro heb hwf)
              have hOn : O.length + N.length ≤ 60 := by omega
              clear hwf heb hbef HOe
              go_wp2_with ((at_builtin; rw [HE.out.1, HE.out.2]; refine wpList_append_rows encF_len encF_one rfl _ _ 22 rfl we.heap.size w5.heap.size 26 _ 72 Tryz.underlying22 factInfo rfl (by decide) (.slice (some ⟨eb, 0, none⟩) 0 0) (.slice A6 O.length c6) [] O rfl HZF.out rfl HOf.out (by simp; omega) (by decide) HBF.out.size ?_))
              intro vg wg howng hgrg
              have HBG : Hid (Below we.heap.size we wg) := Lib.hid (bel_own HBF.out HBF.out.size HZF.out hgrg)
              have HOG := Lib.hid howng
              have HNG : Hid (Own encF 8 26 w9.heap.size (.slice A7 N.length c7) N wg) := Lib.hid (own_bel HNe.out HBG.out)
              clear howng hgrg HZF HOf HE HBF HNe
              go_wp2_with ((at_builtin; refine wpList_append_rows encF_len encF_one rfl _ _ 22 rfl we.heap.size w9.heap.size 26 _ 72 Tryz.underlying22 factInfo rfl (by decide) vg (.slice A7 N.length c7) O N rfl HOG.out rfl HNG.out (by omega) (by decide) HBG.out.size ?_))
              intro vh wh hownh hgrh
              have HBH : Hid (Below we.heap.size we wh) := Lib.hid (bel_own HBG.out HBG.out.size HOG.out hgrh)
              obtain ⟨M, hM⟩ : ∃ M, O ++ N = M := ⟨_, rfl⟩
              have hMl : M.length ≤ 60 := by rw [← hM, List.length_append]; omega
              have HMF : Hid (∀ f ∈ M, Fit f) := Lib.hid (by
                rw [← hM]
                intro f hf
                rcases List.mem_append.1 hf with h | h
                · exact (HOA.out f h).2.2.1
                · exact (HNA.out f h).2.2)
              rw [hM] at hownh HLAW
              obtain ⟨A8, c8, e8, hs8⟩ := own_sf hownh
              subst e8
              have HTD2 := Lib.hid (la_told18 M A8 c8 1 wh (by omega) HMF.out hs8 (HTT.out.below (bTrans HBb.out (bTrans HBE.out HBH.out))))
              obtain ⟨T2, hT2⟩ : ∃ T, tellL [] M = T := ⟨_, rfl⟩
              have hT2l : T2.length ≤ 60 := by rw [← hT2]; exact Nat.le_trans (told_le M) hMl
              rw [hT2] at HLAW
              have HT2 := Lib.hid hT2
              clear hownh hgrh hM hs8 hT2 HOG HNG HBG HMF
              go_wp2_with fail
              refine HTD2.out.mono ?_
              rintro e wi ⟨⟨A2, c2, Ay, cy, rfl, hc2, hsi, _⟩, hbi⟩
              rw [HT2.out] at hc2 hsi ⊢
              obtain ⟨mq, hmq⟩ : ∃ n, (toMs 1 T2).length = n := ⟨_, rfl⟩
              rw [hmq]
              obtain ⟨cb, hcb⟩ : ∃ z, wi.heap.size = z := ⟨_, rfl⟩
              obtain ⟨wk, hwk⟩ : ∃ z, wi.alloc (.cells #[.slice A2 T2.length c2] 33) = z := ⟨_, rfl⟩
              have hbik : Below wi.heap.size wi wk := by rw [← hwk]; exact bAlloc _ _
              have hbek : Below we.heap.size we wk := bTrans HBH.out (bTrans hbi hbik)
              have hkk : Bk cb 33 #[.slice A2 T2.length c2] wk := by rw [← hwk, ← hcb]; exact Bk.new _ _ _
              have hke : Bk bb 33 #[.slice A1 T1.length c1] wk := bkB HKE.out hbek
              have HBK : Hid (Below wb.heap.size wb wk) := Lib.hid (bTrans HBE.out hbek)
              have HCX : Hid (∀ W, Below wk.heap.size wk W → W.cell? ⟨bb, 0, none⟩ = some (.slice A1 T1.length c1) ∧ W.cell? ⟨cb, 0, none⟩ = some (.slice A2 T2.length c2) ∧ W.cell? ⟨sb, 0, none⟩ = some (.int .i64 F) ∧ W.cell? ⟨sb, 1, none⟩ = some (.int .i64 U)) := Lib.hid fun W hW => ⟨bCell hW (hke.cell 0), bCell hW (hkk.cell 0), HSCb.out W (bTrans HBK.out hW)⟩
              have HST : Hid (SlF wk A1 T1 ∧ SlF wk A2 T2) := Lib.hid ⟨HSE.out.1.below hbek, hsi.below hbik⟩
              have HCN : Hid (T1.length ≤ c1 ∧ T2.length ≤ c2) := Lib.hid ⟨HSE.out.2, hc2⟩
              have HAT1 : Hid (∀ W, Calls Tryz.prog 12 #[.agg #[.slice A1 T1.length c1], .int .i64 T1.length] W fun e w' => e = .returned (.agg #[.slice A1 T1.length T1.length]) ∧ Below W.heap.size W w') := Lib.hid fun W => by
                have h := st_At T1 A1 c1 T1.length W (by omega) HCN.out.1
                have e : atN T1 (T1.length : Int) = T1.length := by unfold atN; simp
                rwa [e] at h
              have HAT2 : Hid (∀ W, Calls Tryz.prog 12 #[.agg #[.slice A2 T2.length c2], .int .i64 T2.length] W fun e w' => e = .returned (.agg #[.slice A2 T2.length T2.length]) ∧ Below W.heap.size W w') := Lib.hid fun W => by
                have h := st_At T2 A2 c2 T2.length W (by omega) HCN.out.2
                have e : atN T2 (T2.length : Int) = T2.length := by unfold atN; simp
                rwa [e] at h
              obtain ⟨Zx, hZx⟩ : ∃ Z, absX (kA T1 1) F U = Z := ⟨_, rfl⟩
              obtain ⟨Zy, hZy⟩ : ∃ Z, absX (kA T2 1) F U = Z := ⟨_, rfl⟩
              have hxl : Zx.length ≤ 10001 := by rw [← hZx]; exact absX_le _ _ _ (Nat.le_trans (chosen_len _ _ _) (by omega))
              have HO1 : Hid (∀ W, Below wk.heap.size wk W → Calls Tryz.prog 11 #[.agg #[.slice A1 T1.length T1.length], .int .u32 1, .agg #[.int .i64 F, .int .i64 U]] W fun e w' => (∃ A c, e = .returned (.tuple #[.slice A Zx.length c, .int .i64 0]) ∧ Sl encAb 5 w' w'.heap.size A Zx) ∧ Below W.heap.size W w') := Lib.hid fun W hW => by
                have h := ab_Of T1 A1 T1.length 1 F U W (by omega) (HST.out.1.below hW) hF hU
                refine h.mono fun e w' ⟨h1, h2⟩ => ⟨?_, h2⟩
                rw [if_pos (with_cal hF1 hU1), hZx] at h1
                obtain ⟨A', c', he, ho⟩ := h1
                obtain ⟨A4, c4, e3, _, h4⟩ := own_sl encAb_len ho
                injection e3 with e3 _ _
                rw [← e3] at h4
                exact ⟨A', c', he, h4⟩
              have HO2 : Hid (∀ W, Below wk.heap.size wk W → Calls Tryz.prog 11 #[.agg #[.slice A2 T2.length T2.length], .int .u32 1, .agg #[.int .i64 F, .int .i64 U]] W fun e w' => (∃ A c, e = .returned (.tuple #[.slice A Zy.length c, .int .i64 0]) ∧ Sl encAb 5 w' w'.heap.size A Zy) ∧ Below W.heap.size W w') := Lib.hid fun W hW => by
                have h := ab_Of T2 A2 T2.length 1 F U W (by omega) (HST.out.2.below hW) hF hU
                refine h.mono fun e w' ⟨h1, h2⟩ => ⟨?_, h2⟩
                rw [if_pos (with_cal hF1 hU1), hZy] at h1
                obtain ⟨A', c', he, ho⟩ := h1
                obtain ⟨A4, c4, e3, _, h4⟩ := own_sl encAb_len ho
                injection e3 with e3 _ _
                rw [← e3] at h4
                exact ⟨A', c', he, h4⟩
              rw [hZx, hZy] at HLAW
              have HE := Lib.hid (And.intro hcb hwk)
              clear hmq hcb hwk hbik hbek hkk hke hbi hsi hc2 HTD2 HST HCN HKE HSE hZx hZy HSCb
              go_upto_region 20 with fail
              rw [HE.out.1, HE.out.2]
              clear HE
              go_cut [17, 18] from 110 to 118 (fun lv ev wx => (∃ Az cz, lv = .slice Az Zx.length cz ∧ Hid (Sl encAb 5 wx wx.heap.size Az Zx)) ∧ ev = .int .i64 0 ∧ Hid (Below wk.heap.size wk wx))
              case first =>
                refine wp_region_use (SPS [(13, Sp.val (.pointer (some ⟨bb, 0, none⟩))), (5, Sp.val (.pointer (some ⟨sb, 0, none⟩))), (111, Sp.val (.agg #[.slice A1 T1.length c1])), (112, Sp.val (.agg #[.slice A1 T1.length c1])), (113, Sp.val (.int .i64 T1.length)), (114, Sp.val (.agg #[.slice A1 T1.length T1.length])), (115, Sp.val (.agg #[.int .i64 F, .int .i64 U])), (116, (spAy Zx)), (110, (spAy Zx)), (117, (spSl encAb 5 Zx)), (118, Sp.val (.int .i64 0)), (17, (spSl encAb 5 Zx)), (18, Sp.val (.int .i64 0))]) [] [111, 112, 113, 114, 115, 116, 110, 117, 118, 17, 18] rfl (by rfl) (by kernel_rfl) (SPS.st _) (by rfl) ?_ (opsK_all ?_) ?_
                · exact sps_start (cons_all rfl (cons_all rfl (nil_all)))
                · refine opsK_cons (by
                   exact use_s [] (opOk_load (p := ⟨bb, 0, none⟩) rfl rfl (.inl rfl) (by kernel_rfl) (fun _ _ h => h.get rfl) (fun W hW => by
                      obtain ⟨k0, k1, k2, k3⟩ := HCX.out _ hW
                      exact ⟨.agg #[.slice A1 T1.length c1], by go_simp, sps rfl rfl⟩)) (by kernel_rfl) (by rfl)) ?_
                  refine opsK_cons (by
                   exact use_s [] (opOk_load (p := ⟨bb, 0, none⟩) rfl rfl (.inl rfl) (by kernel_rfl) (fun _ _ h => h.get rfl) (fun W hW => by
                      obtain ⟨k0, k1, k2, k3⟩ := HCX.out _ hW
                      exact ⟨.agg #[.slice A1 T1.length c1], by go_simp, sps rfl rfl⟩)) (by kernel_rfl) (by rfl)) ?_
                  refine opsK_cons (by
                   exact use_s [] (opOk_callg (fun a => #[a.eval (.tmp 112)]) rfl rfl (.inl rfl) (fun a => by simp only [List.map_toArray, List.map_cons, List.map_nil] <;> rfl) (fun args W => by go_simp) (fun a W hW hsp => by
                      have e112 : a.eval (.tmp 112) = .agg #[.slice A1 T1.length c1] := (hsp 112 (by kernel_rfl)).get rfl
                      simp only [e112]
                      exact (st_Len A1 T1.length c1 _).mono fun e w' ⟨he, hb⟩ => ⟨_, he, hb, sps rfl rfl⟩)) (by kernel_rfl) (by rfl)) ?_
                  refine opsK_cons (by
                   exact use_s [] (opOk_callg (fun a => #[a.eval (.tmp 111), a.eval (.tmp 113)]) rfl rfl (.inl rfl) (fun a => by simp only [List.map_toArray, List.map_cons, List.map_nil] <;> rfl) (fun args W => by go_simp) (fun a W hW hsp => by
                      have e111 : a.eval (.tmp 111) = .agg #[.slice A1 T1.length c1] := (hsp 111 (by kernel_rfl)).get rfl
                      have e113 : a.eval (.tmp 113) = .int .i64 T1.length := (hsp 113 (by kernel_rfl)).get rfl
                      simp only [e111, e113]
                      exact (HAT1.out _).mono fun e w' ⟨he, hb⟩ => ⟨_, he, hb, sps rfl rfl⟩)) (by kernel_rfl) (by rfl)) ?_
                  refine opsK_cons (by
                   exact use_s [] (opOk_load (p := ⟨sb, 0, none⟩) rfl rfl (.inl rfl) (by kernel_rfl) (fun _ _ h => h.get rfl) (fun W hW => by
                      obtain ⟨k0, k1, k2, k3⟩ := HCX.out _ hW
                      exact ⟨.agg #[.int .i64 F, .int .i64 U], by go_simp, sps rfl rfl⟩)) (by kernel_rfl) (by rfl)) ?_
                  refine opsK_cons (by
                   exact use_s [] (opOk_callg (fun a => #[a.eval (.tmp 114), .int .u32 1, a.eval (.tmp 115)]) rfl rfl (.inl rfl) (fun a => by simp only [List.map_toArray, List.map_cons, List.map_nil] <;> rfl) (fun args W => by go_simp) (fun a W hW hsp => by
                      have e114 : a.eval (.tmp 114) = .agg #[.slice A1 T1.length T1.length] := (hsp 114 (by kernel_rfl)).get rfl
                      have e115 : a.eval (.tmp 115) = .agg #[.int .i64 F, .int .i64 U] := (hsp 115 (by kernel_rfl)).get rfl
                      simp only [e114, e115]
                      exact (HO1.out _ hW).mono fun e w' ⟨⟨A, c, he, hs⟩, hb⟩ => ⟨_, he, hb, sps rfl ⟨A, c, rfl, hs⟩⟩)) (by kernel_rfl) (by rfl)) ?_
                  refine opsK_cons (by
                   exact use_s [] (opOk_move rfl rfl (.inl rfl) (by kernel_rfl) (fun _ _ h => sps rfl (h.get rfl))) (by kernel_rfl) (by rfl)) ?_
                  refine opsK_cons (by
                   exact use_s [] (opOk_run rfl (.inl rfl) (fun a W hW hsp => by
                      obtain ⟨A110, c110, hv, hs110⟩ := (hsp 110 (by kernel_rfl)).get rfl
                      have e110 : a.eval (.tmp 110) = .tuple #[.slice A110 Zx.length c110, .int .i64 0] := hv
                      refine ⟨.slice A110 Zx.length c110, ?_, sps rfl ⟨A110, c110, rfl, hs110⟩⟩
                      unfold execOp
                      simp only [e110]
                      go_simp)) (by kernel_rfl) (by rfl)) ?_
                  refine opsK_cons (by
                   exact use_s [] (opOk_run rfl (.inl rfl) (fun a W hW hsp => by
                      obtain ⟨A110, c110, hv, hs110⟩ := (hsp 110 (by kernel_rfl)).get rfl
                      have e110 : a.eval (.tmp 110) = .tuple #[.slice A110 Zx.length c110, .int .i64 0] := hv
                      refine ⟨.int .i64 0, ?_, sps rfl rfl⟩
                      unfold execOp
                      simp only [e110]
                      go_simp)) (by kernel_rfl) (by rfl)) ?_
                  refine opsK_cons (by
                   exact use_s [] (opOk_assign rfl rfl (.inl rfl) (by kernel_rfl) (fun _ _ h => sps rfl (h.get rfl))) (by kernel_rfl) (by rfl)) ?_
                  refine opsK_cons (by
                   exact use_s [] (opOk_assign rfl rfl (.inl rfl) (by kernel_rfl) (fun _ _ h => sps rfl (h.get rfl))) (by kernel_rfl) (by rfl)) ?_
                  exact opsK_nil
                · intro vs W3 hb hsp
                  obtain ⟨Az, cz, zl, hsz⟩ := (hsp 17 (by simp)).get rfl
                  have ze := (hsp 18 (by simp)).get rfl
                  simp only [putAll]
                  go_simp
                  go_step
                  go_meet
                  exact ⟨⟨Az, cz, by first | rfl | exact zl, Lib.hid hsz⟩, by first | rfl | exact ze, Lib.hid hb⟩
              case rest =>
              obtain ⟨⟨Ax, cx, rfl, HSX⟩, rfl, HBV⟩ := hcut
              obtain ⟨wv, rfl⟩ : ∃ x : World, x = wc := ⟨_, rfl⟩
              clear HAT1 HO1
              go_upto_region 21 with fail
              go_cut [19, 20] from 119 to 127 (fun lv ev wx => (∃ Az cz, lv = .slice Az Zy.length cz ∧ Hid (Sl encAb 5 wx wx.heap.size Az Zy)) ∧ ev = .int .i64 0 ∧ Hid (Below wv.heap.size wv wx))
              case first =>
                refine wp_region_use (SPS [(15, Sp.val (.pointer (some ⟨cb, 0, none⟩))), (5, Sp.val (.pointer (some ⟨sb, 0, none⟩))), (120, Sp.val (.agg #[.slice A2 T2.length c2])), (121, Sp.val (.agg #[.slice A2 T2.length c2])), (122, Sp.val (.int .i64 T2.length)), (123, Sp.val (.agg #[.slice A2 T2.length T2.length])), (124, Sp.val (.agg #[.int .i64 F, .int .i64 U])), (125, (spAy Zy)), (119, (spAy Zy)), (126, (spSl encAb 5 Zy)), (127, Sp.val (.int .i64 0)), (19, (spSl encAb 5 Zy)), (20, Sp.val (.int .i64 0))]) [] [120, 121, 122, 123, 124, 125, 119, 126, 127, 19, 20] rfl (by rfl) (by kernel_rfl) (SPS.st _) (by rfl) ?_ (opsK_all ?_) ?_
                · exact sps_start (cons_all rfl (cons_all rfl (nil_all)))
                · refine opsK_cons (by
                   exact use_s [] (opOk_load (p := ⟨cb, 0, none⟩) rfl rfl (.inl rfl) (by kernel_rfl) (fun _ _ h => h.get rfl) (fun W hW => by
                      obtain ⟨k0, k1, k2, k3⟩ := HCX.out _ (bTrans HBV.out hW)
                      exact ⟨.agg #[.slice A2 T2.length c2], by go_simp, sps rfl rfl⟩)) (by kernel_rfl) (by rfl)) ?_
                  refine opsK_cons (by
                   exact use_s [] (opOk_load (p := ⟨cb, 0, none⟩) rfl rfl (.inl rfl) (by kernel_rfl) (fun _ _ h => h.get rfl) (fun W hW => by
                      obtain ⟨k0, k1, k2, k3⟩ := HCX.out _ (bTrans HBV.out hW)
                      exact ⟨.agg #[.slice A2 T2.length c2], by go_simp, sps rfl rfl⟩)) (by kernel_rfl) (by rfl)) ?_
                  refine opsK_cons (by
                   exact use_s [] (opOk_callg (fun a => #[a.eval (.tmp 121)]) rfl rfl (.inl rfl) (fun a => by simp only [List.map_toArray, List.map_cons, List.map_nil] <;> rfl) (fun args W => by go_simp) (fun a W hW hsp => by
                      have e121 : a.eval (.tmp 121) = .agg #[.slice A2 T2.length c2] := (hsp 121 (by kernel_rfl)).get rfl
                      simp only [e121]
                      exact (st_Len A2 T2.length c2 _).mono fun e w' ⟨he, hb⟩ => ⟨_, he, hb, sps rfl rfl⟩)) (by kernel_rfl) (by rfl)) ?_
                  refine opsK_cons (by
                   exact use_s [] (opOk_callg (fun a => #[a.eval (.tmp 120), a.eval (.tmp 122)]) rfl rfl (.inl rfl) (fun a => by simp only [List.map_toArray, List.map_cons, List.map_nil] <;> rfl) (fun args W => by go_simp) (fun a W hW hsp => by
                      have e120 : a.eval (.tmp 120) = .agg #[.slice A2 T2.length c2] := (hsp 120 (by kernel_rfl)).get rfl
                      have e122 : a.eval (.tmp 122) = .int .i64 T2.length := (hsp 122 (by kernel_rfl)).get rfl
                      simp only [e120, e122]
                      exact (HAT2.out _).mono fun e w' ⟨he, hb⟩ => ⟨_, he, hb, sps rfl rfl⟩)) (by kernel_rfl) (by rfl)) ?_
                  refine opsK_cons (by
                   exact use_s [] (opOk_load (p := ⟨sb, 0, none⟩) rfl rfl (.inl rfl) (by kernel_rfl) (fun _ _ h => h.get rfl) (fun W hW => by
                      obtain ⟨k0, k1, k2, k3⟩ := HCX.out _ (bTrans HBV.out hW)
                      exact ⟨.agg #[.int .i64 F, .int .i64 U], by go_simp, sps rfl rfl⟩)) (by kernel_rfl) (by rfl)) ?_
                  refine opsK_cons (by
                   exact use_s [] (opOk_callg (fun a => #[a.eval (.tmp 123), .int .u32 1, a.eval (.tmp 124)]) rfl rfl (.inl rfl) (fun a => by simp only [List.map_toArray, List.map_cons, List.map_nil] <;> rfl) (fun args W => by go_simp) (fun a W hW hsp => by
                      have e123 : a.eval (.tmp 123) = .agg #[.slice A2 T2.length T2.length] := (hsp 123 (by kernel_rfl)).get rfl
                      have e124 : a.eval (.tmp 124) = .agg #[.int .i64 F, .int .i64 U] := (hsp 124 (by kernel_rfl)).get rfl
                      simp only [e123, e124]
                      exact (HO2.out _ (bTrans HBV.out hW)).mono fun e w' ⟨⟨A, c, he, hs⟩, hb⟩ => ⟨_, he, hb, sps rfl ⟨A, c, rfl, hs⟩⟩)) (by kernel_rfl) (by rfl)) ?_
                  refine opsK_cons (by
                   exact use_s [] (opOk_move rfl rfl (.inl rfl) (by kernel_rfl) (fun _ _ h => sps rfl (h.get rfl))) (by kernel_rfl) (by rfl)) ?_
                  refine opsK_cons (by
                   exact use_s [] (opOk_run rfl (.inl rfl) (fun a W hW hsp => by
                      obtain ⟨A119, c119, hv, hs119⟩ := (hsp 119 (by kernel_rfl)).get rfl
                      have e119 : a.eval (.tmp 119) = .tuple #[.slice A119 Zy.length c119, .int .i64 0] := hv
                      refine ⟨.slice A119 Zy.length c119, ?_, sps rfl ⟨A119, c119, rfl, hs119⟩⟩
                      unfold execOp
                      simp only [e119]
                      go_simp)) (by kernel_rfl) (by rfl)) ?_
                  refine opsK_cons (by
                   exact use_s [] (opOk_run rfl (.inl rfl) (fun a W hW hsp => by
                      obtain ⟨A119, c119, hv, hs119⟩ := (hsp 119 (by kernel_rfl)).get rfl
                      have e119 : a.eval (.tmp 119) = .tuple #[.slice A119 Zy.length c119, .int .i64 0] := hv
                      refine ⟨.int .i64 0, ?_, sps rfl rfl⟩
                      unfold execOp
                      simp only [e119]
                      go_simp)) (by kernel_rfl) (by rfl)) ?_
                  refine opsK_cons (by
                   exact use_s [] (opOk_assign rfl rfl (.inl rfl) (by kernel_rfl) (fun _ _ h => sps rfl (h.get rfl))) (by kernel_rfl) (by rfl)) ?_
                  refine opsK_cons (by
                   exact use_s [] (opOk_assign rfl rfl (.inl rfl) (by kernel_rfl) (fun _ _ h => sps rfl (h.get rfl))) (by kernel_rfl) (by rfl)) ?_
                  exact opsK_nil
                · intro vs W3 hb hsp
                  obtain ⟨Az, cz, zl, hsz⟩ := (hsp 19 (by simp)).get rfl
                  have ze := (hsp 20 (by simp)).get rfl
                  simp only [putAll]
                  go_simp
                  go_step
                  go_meet
                  exact ⟨⟨Az, cz, by first | rfl | exact zl, Lib.hid hsz⟩, by first | rfl | exact ze, Lib.hid hb⟩
              case rest =>
              obtain ⟨⟨Ay, cy, rfl, HSY⟩, rfl, HBX⟩ := hcut
              obtain ⟨wx, rfl⟩ : ∃ x : World, x = wc := ⟨_, rfl⟩
              have HBN : Hid (Below w.heap.size w wx) := Lib.hid (bTrans HBb.out (bTrans HBK.out (bTrans HBV.out HBX.out)))
              have HSX2 := Lib.hid (sl_bel HSX.out HBX.out)
              have hlen : Zy.length = Zx.length := by
                have h := congrArg List.length HLAW.out
                rwa [List.length_map, List.length_map] at h
              rw [hlen]
              clear HAT2 HO2 HSX HBV HBX HCX
              go_wp2
              go_loopw [140] (fun iv wr => ∃ i : Nat, i ≤ Zx.length ∧ iv = .int .i64 i ∧ Hid (Below wx.heap.size wx wr)) (fun iv _ => Zx.length - (intOf iv).toNat)
              case atStart => exact ⟨0, Nat.zero_le _, rfl, Lib.hid (Below.refl _ _)⟩
              case round =>
                obtain ⟨i, hi, rfl, HBR⟩ := hrel
                obtain ⟨wo, hwo⟩ : ∃ x : World, x = wr := ⟨_, rfl⟩
                subst hwo
                by_cases hlt : i < Zx.length
                · obtain ⟨⟨p0, p1, p2, p3, p4⟩, hp⟩ : ∃ x, Zx[i]? = some x := ⟨_, List.getElem?_eq_getElem hlt⟩
                  obtain ⟨⟨q0, q1, q2, q3, q4⟩, hq⟩ : ∃ x, Zy[i]? = some x := ⟨_, List.getElem?_eq_getElem (by omega)⟩
                  obtain ⟨r0, r1, r2, r3⟩ := qu_at HLAW.out hq hp
                  simp only at r0 r1 r2 r3
                  subst r0; subst r1; subst r2; subst r3
                  obtain ⟨g1, o1, rfl, _, hat1⟩ := HSX2.out (by intro h; simp [h] at hlt)
                  obtain ⟨g2, o2, rfl, _, hat2⟩ := HSY.out (by intro h; simp [h] at hlen; omega)
                  have h1 := hat1 i _ hp
                  have h2 := hat2 i _ hq
                  have C0 : wo.cell? ⟨g1, o1 + i * 5, none⟩ = some (.int .i64 q0) := bCell HBR.out (h1 0 _ rfl)
                  have C1 : wo.cell? ⟨g1, o1 + i * 5 + 1, none⟩ = some (.int .i64 q1) := bCell HBR.out (h1 1 _ rfl)
                  have C2 : wo.cell? ⟨g1, o1 + i * 5 + 2, none⟩ = some (.int .i64 q2) := bCell HBR.out (h1 2 _ rfl)
                  have C3 : wo.cell? ⟨g1, o1 + i * 5 + 3, none⟩ = some (.int .i64 q3) := bCell HBR.out (h1 3 _ rfl)
                  have D0 : wo.cell? ⟨g2, o2 + i * 5, none⟩ = some (.int .i64 q0) := bCell HBR.out (h2 0 _ rfl)
                  have D1 : wo.cell? ⟨g2, o2 + i * 5 + 1, none⟩ = some (.int .i64 q1) := bCell HBR.out (h2 1 _ rfl)
                  have D2 : wo.cell? ⟨g2, o2 + i * 5 + 2, none⟩ = some (.int .i64 q2) := bCell HBR.out (h2 2 _ rfl)
                  have D3 : wo.cell? ⟨g2, o2 + i * 5 + 3, none⟩ = some (.int .i64 q3) := bCell HBR.out (h2 3 _ rfl)
                  have hmx : Zx.length < 2 ^ 40 := by omega
                  have hqs := eqSp q0 q1
                  clear h1 h2 hat1 hat2 hp hq
                  go_upto_region 27 with fail
                  go_quiet (fail)
                  rename_i nq
                  have HBY : Hid (Below wx.heap.size wx (wo.drewN nq)) := Lib.hid (HBR.out.trans ((bDrewN wo nq).mono HBR.out.size))
                  clear HBR C0 C1 C2 C3 D0 D1 D2 D3 hqs
                  go_wp2
                  exact ⟨⟨i + 1, by omega, by go_num, HBY⟩, by simp [intOf]; omega⟩
                · obtain rfl : i = Zx.length := by omega
                  have HBY : Hid (Below w.heap.size w wo) := Lib.hid (bTrans HBN.out HBR.out)
                  clear hlt HBR
                  go_wp2_with fail
                  refine (HAW.out _ HBY.out).mono ?_
                  rintro e w6 ⟨rfl, hb6⟩
                  have HF := Lib.hid (bTrans HBY.out hb6)
                  clear hb6
                  go_wp2
                  go_ret
                  exact ⟨rfl, HF.out⟩
end Go.Proofs.YtmngghglcgmkeaaGreatDoor

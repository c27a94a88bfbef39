/- Merged from: Sp4 Tm1 Tm2 Tm3 Tm4. -/
import Derived.Test.YtlgoaohklggcdaaGreatDoorSpa
import Derived.Test.YtlgoaohklggcdaaGreatDoorShE
import Derived.Test.YtlgoaohklggcdaaGreatDoorCivs
import Derived.Test.YtlgoaohklggcdaaGreatDoorChks
namespace Go.Proofs.YtlgoaohklggcdaaGreatDoor
open Go.RowKit Go.Sort

def cfD (x y : Int) : Int := if x < y then -1 else if y < x then 1 else 0
theorem dd_isNaN (x : Int) (w : World) : Calls Tryz.prog 121 #[.int .i64 x] w fun e w' => e = .returned (.bool false) ∧ w' = w := by
  go_enter Tryz.func121, Tryz.ntmps121
  go_wp2
  go_ret
  exact ⟨rfl, rfl⟩
theorem dd_Compare (x y : Int) (w : World) : Calls Tryz.prog 71 #[.int .i64 x, .int .i64 y] w fun e w' => e = .returned (.int .i64 (cfD x y)) ∧ w' = w := by
  go_enter Tryz.func71, Tryz.ntmps71
  go_wp2_with fail
  refine (dd_isNaN x _).mono ?_
  rintro e w1 ⟨rfl, rfl⟩
  go_wp2_with fail
  refine (dd_isNaN y _).mono ?_
  rintro e w1 ⟨rfl, rfl⟩
  by_cases h : x < y
  · go_wp2
    go_ret
    exact ⟨ret_i (by unfold cfD; rw [if_pos (by omega)]), rfl⟩
  · by_cases h1 : y < x
    · go_wp2
      go_ret
      exact ⟨ret_i (by unfold cfD; rw [if_neg (by omega), if_pos (by omega)]), rfl⟩
    · go_wp2
      go_ret
      exact ⟨ret_i (by unfold cfD; rw [if_neg (by omega), if_neg (by omega)]), rfl⟩
theorem sp_cmp (x y : Spn) (w : World) : Calls Tryz.prog 119 #[.agg (encSp x).toArray, .agg (encSp y).toArray] w fun e w' => e = .returned (.int .i64 (cfD x.1 y.1)) ∧ ∃ q os', w' = grow (w.drewN q) os' := by
  show Calls Tryz.prog 119 #[.agg #[.int .i64 x.1, .int .i64 x.2], .agg #[.int .i64 y.1, .int .i64 y.2]] w _
  go_enter Tryz.func119, Tryz.ntmps119
  go_wp2_with fail
  refine (dd_Compare x.1 y.1 _).mono ?_
  rintro e w1 ⟨rfl, rfl⟩
  go_wp2
  go_ret
  refine ⟨rfl, 0, #[.cells #[.int .i64 x.1, .int .i64 x.2] 31, .cells #[.int .i64 y.1, .int .i64 y.2] 31], ?_⟩
  rw [alloc_eq_grow, alloc_eq_grow, grow_grow]
  rfl
theorem swo_cf : SWO (ltOf fun x y : Spn => cfD x.1 y.1) := by
  have e : ∀ x y : Spn, ltOf (fun x y : Spn => cfD x.1 y.1) x y = decide (x.1 < y.1) := fun x y => by
    unfold ltOf cfD
    by_cases h : x.1 < y.1
    · simp [h]
    · by_cases h2 : y.1 < x.1 <;> simp [h, h2]
  constructor
  · intro x; rw [e]; simp
  · intro x y z; rw [e, e, e]; simp; omega
  · intro x y z; rw [e, e, e]; simp; omega
theorem sorted_same {d d' : Array Spn} (hp : PermIn 0 d.size d d') (hs : SortedIn (ltOf fun x y : Spn => cfD x.1 y.1) 0 d.size d') (hd : d.toList.Pairwise (fun x y => x.1 < y.1)) : d' = d := by
  obtain ⟨hz, _, hperm⟩ := hp
  have e1 : d'.extract 0 d.size = d' := by rw [← hz]; exact Array.extract_size
  have e2 : d.extract 0 d.size = d := Array.extract_size
  rw [e1, e2] at hperm
  have h1 : d'.toList.Pairwise (fun x y => x.1 ≤ y.1) := by
    rw [List.pairwise_iff_getElem]
    intro i j hi hj hij
    have hi' : i < d'.size := by simpa using hi
    have hj' : j < d'.size := by simpa using hj
    have := hs i j (Nat.zero_le _) hij (by rw [← hz]; exact hj')
    rw [getElem!_pos d' i hi', getElem!_pos d' j hj'] at this
    unfold ltOf cfD at this
    simp only [Array.getElem_toList]
    by_cases h : d'[j].1 < d'[i].1
    · simp [h] at this
    · omega
  have h2 : d.toList.Pairwise (fun x y => x.1 ≤ y.1) := hd.imp fun h => by omega
  have key : ∀ a b : Spn, a ∈ d.toList → b ∈ d.toList → a.1 ≤ b.1 → b.1 ≤ a.1 → a = b := by
    intro a b ha hb h3 h4
    obtain ⟨i, hi, rfl⟩ := List.getElem_of_mem ha
    obtain ⟨j, hj, rfl⟩ := List.getElem_of_mem hb
    rcases Nat.lt_trichotomy i j with h | h | h
    · have := List.pairwise_iff_getElem.1 hd i j hi hj h; omega
    · subst h; rfl
    · have := List.pairwise_iff_getElem.1 hd j i hj hi h; omega
  have : d'.toList = d.toList := hperm.eq_of_pairwise (fun a b ha hb => key a b (hperm.mem_iff.1 ha) hb) h1 h2
  exact Array.ext' this
theorem holdsSp {g cap : Nat} {l : List Spn} {w : World} (hr : Rw encSp 2 31 g cap l w) : HoldsK encSp 2 w g 0 l.toArray := by
  intro j hj
  have hj2 : j < l.toArray.size * 2 := by simpa using hj
  have hj3 : j < l.length * 2 := by simpa using hj2
  have hd : j / 2 < l.length := by omega
  refine ⟨?_, by rw [Nat.zero_add]; exact hr.frozen _⟩
  rw [get_flatK _ _ _ _ hj2, Nat.zero_add]
  have hx : l[j / 2]? = some l[j / 2] := List.getElem?_eq_getElem hd
  have e : l.toArray[j / 2]! = l[j / 2] := by rw [getElem!_pos l.toArray _ (by simpa using hd)]; simp
  rw [e]
  have hm : j % 2 < 2 := Nat.mod_lt _ (by decide)
  have hu : (encSp l[j / 2])[j % 2]? = some (encSp l[j / 2])[j % 2]! := by
    rw [List.getElem?_eq_getElem (by rw [encSp_len]; exact hm), getElem!_pos (encSp l[j / 2]) (j % 2) (by rw [encSp_len]; exact hm)]
  have := hr.cell hx hu
  rwa [show j / 2 * 2 + j % 2 = j by omega] at this
theorem sp_Sort {B : Nat} {v : Value} {l : List Spn} {w : World} (h : OwnSp B v l w) (hl : l.length ≤ 1000000) (hd : l.Pairwise (fun x y => x.1 < y.1)) :
    Calls Tryz.prog 118 #[v, .func (.func 119) #[] #[]] w fun e w' => e = .returned (.tuple #[]) ∧ Grows w w' := by
  by_cases hne : l = []
  · subst hne
    obtain ⟨A, cp, rfl, _, _⟩ := own_sl encSp_len h
    exact (AnyF.slices_SortFunc_none Tryz.laySpanSort A cp _ w).mono fun e w' ⟨h1, h2⟩ => ⟨h1, by rw [h2]; exact .refl _⟩
  · obtain ⟨g, cap, rfl, hb, hr⟩ := Own.row encSp_len h hne
    have hH := holdsSp hr
    have k := AnyQ.slices_SortFunc Tryz.laySpanSort 2 Tryz.isAgg31 Tryz.sizeOf31 encSp encSp_len encSp_one (fun x y : Spn => cfD x.1 y.1) swo_cf 119 #[] g 0 cap l.toArray w (enters_of Tryz.func119 (by kernel_rfl) rfl) (fun m os dk _ x y => sp_cmp x y _) hH hr.lt (by simp; omega)
    rw [List.size_toArray] at k
    refine k.mono fun e w' ⟨h1, d', n, os, hp, hs, hw⟩ => ⟨h1, n, os, ?_⟩
    have e := sorted_same (d := l.toArray) hp hs (by simpa using hd)
    rw [hw, e]
    unfold sortWorldK
    rw [show putRowK encSp 2 (Sort.ahead w n) g 0 l.toArray = Sort.ahead w n from putRow_self id _ g 0 _ hH]
    rfl
/-- Spans, one behind the other. -/
def ofS (L : List Spn) : List Spn := L.foldl (fun O s => joinS O s.1 s.2) []
theorem ofS_take {L : List Spn} {k : Nat} {s : Spn} (h : L[k]? = some s) : ofS (L.take (k + 1)) = joinS (ofS (L.take k)) s.1 s.2 := by
  unfold ofS
  rw [List.take_add_one, h, List.foldl_append]
  rfl
theorem ofS_len : ∀ (L O : List Spn), (L.foldl (fun O s => joinS O s.1 s.2) O).length ≤ O.length + L.length
  | [], _ => by simp
  | s :: L, O => by
    rw [List.foldl_cons]
    have h1 := ofS_len L (joinS O s.1 s.2)
    have h2 := joinS_len O s.1 s.2
    rw [List.length_cons]; omega
set_option maxHeartbeats 4000000 in
set_option maxRecDepth 100000 in
theorem sp_Of (L : List Spn) (A : Option Addr) (cap : Nat) (w : World) (hn : L.length ≤ 50000) (hs : Sl encSp 2 w w.heap.size A L) (hd : L.Pairwise (fun x y => x.1 < y.1)) :
    Calls Tryz.prog 68 #[.slice A L.length cap] w fun e w' => (∃ A' c', e = .returned (.agg #[.slice A' (ofS L).length c']) ∧ OwnSp w.heap.size (.slice A' (ofS L).length c') (ofS L) w') ∧ Below w.heap.size w w' := by
  obtain ⟨rb, hrb⟩ : ∃ x, w.heap.size = x := ⟨_, rfl⟩
  obtain ⟨w2, hw2⟩ : ∃ x, w.alloc (.cells #[.slice none 0 0] 74) = x := ⟨_, rfl⟩
  have hk2 : Bk rb 74 #[.slice none 0 0] w2 := by rw [← hw2, ← hrb]; exact Bk.new _ _ _
  have hb2 : Below w.heap.size w w2 := by rw [← hw2]; exact bAlloc _ _
  have HRW : Hid (w.heap.size ≤ rb) := Lib.hid (by omega)
  have HB2 := Lib.hid hb2
  have HCL := Lib.hid (sp_Clone L A cap w2 (by simp only [maxLen]; omega) (by omega) (sl_bel hs hb2))
  have HK2 := Lib.hid hk2
  have HE2 := Lib.hid (And.intro hrb hw2)
  clear hs hrb hw2 hk2 hb2
  go_enter Tryz.func68, Tryz.ntmps68
  go_upto_region 1 with fail
  rw [HE2.out.1, HE2.out.2]
  clear HE2
  go_wp2_with fail
  refine HCL.out.mono ?_
  rintro e w3 ⟨⟨A3, c3, rfl, ho3⟩, hb3⟩
  have HSO := Lib.hid (sp_Sort ho3 (by omega) hd)
  have HO3 := Lib.hid ho3
  have HB3 : Hid (Below w2.heap.size w2 w3) := Lib.hid hb3
  clear ho3 hb3 HCL
  go_wp2_with fail
  refine HSO.out.mono ?_
  rintro e w4 ⟨rfl, hg4⟩
  have HB4 : Hid (Below w2.heap.size w2 w4) := Lib.hid (bTrans HB3.out hg4.below)
  obtain ⟨A3', c3', he3, _, hs4⟩ := own_sl encSp_len (own_bel HO3.out hg4.below)
  injection he3 with he3 _ hc3
  subst he3; subst hc3
  have HS4 : Hid (∀ W, Below w4.heap.size w4 W → Sl encSp 2 W W.heap.size A3 L) := Lib.hid fun W hW => sl_bel hs4 hW
  clear hg4 hs4 HSO HO3 HB3
  go_wp2
  go_loopw [4, 13] (fun ov iv wr => ∃ k : Nat, k ≤ L.length ∧ iv = .int .i64 k ∧ Hid (OwnSp w4.heap.size ov (ofS (L.take k)) wr) ∧ Hid (Below w4.heap.size w4 wr)) (fun _ iv _ => L.length - (intOf iv).toNat)
  case atStart => exact ⟨0, Nat.zero_le _, rfl, Lib.hid (Own.nil _), Lib.hid (Below.refl _ _)⟩
  case round =>
    obtain ⟨k, hk, rfl, HO, HB⟩ := hrel
    by_cases hlt : k < L.length
    · obtain ⟨s, hx⟩ : ∃ x, L[k]? = some x := ⟨_, List.getElem?_eq_getElem hlt⟩
      obtain ⟨b, off, rfl, hbl, hat⟩ := HS4.out wr HB.out (by intro h; simp [h] at hlt)
      have G0 := hat k s hx 0 _ rfl
      have G1 := hat k s hx 1 _ rfl
      simp only [Nat.add_zero] at G0
      have hlt2 : (k : Int) < (L.length : Int) := by omega
      have HT := Lib.hid (ofS_take hx)
      have HLE : (ofS (L.take k)).length ≤ 100000 := by
        have := ofS_len (L.take k) []
        rw [List.length_take] at this
        unfold ofS
        simp only [List.length_nil] at this
        omega
      obtain ⟨kb, hkb⟩ : ∃ z, wr.heap.size = z := ⟨_, rfl⟩
      obtain ⟨w5, hw5⟩ : ∃ z, wr.alloc (.cells #[.int .i64 s.1, .int .i64 s.2] 31) = z := ⟨_, rfl⟩
      have hk5 : Bk kb 31 #[.int .i64 s.1, .int .i64 s.2] w5 := by rw [← hw5, ← hkb]; exact Bk.new _ _ _
      have hb5 : Below wr.heap.size wr w5 := by rw [← hw5]; exact bAlloc wr _
      have HB5 : Hid (Below w4.heap.size w4 w5) := Lib.hid (bTrans HB.out hb5)
      have HJ := Lib.hid (sp_join s.1 s.2 (own_bel HO.out hb5) HLE HB5.out.size)
      have P0 : w5.cell? ⟨kb, 0, none⟩ = some (.int .i64 s.1) := hk5.cell 0
      have P1 : w5.cell? ⟨kb, 1, none⟩ = some (.int .i64 s.2) := hk5.cell 1
      have HE := Lib.hid (And.intro hkb hw5)
      clear hat hx hkb hw5 hk5 hb5 HO HB
      go_upto_region 7 with fail
      rw [HE.out.1, HE.out.2]
      clear G0 G1 HE
      go_wp2_with fail
      refine HJ.out.mono ?_
      rintro e w6 ⟨⟨v6, rfl, ho6⟩, hb6⟩
      have HO6 : Hid (OwnSp w4.heap.size v6 (ofS (L.take (k + 1))) w6) := Lib.hid (by rw [HT.out]; exact ho6)
      have HB6 : Hid (Below w4.heap.size w4 w6) := Lib.hid (HB5.out.trans hb6)
      clear ho6 hb6 HJ P0 P1
      go_wp2
      exact ⟨⟨k + 1, by omega, by go_num, HO6, HB6⟩, by simp [intOf]; omega⟩
    · obtain rfl : k = L.length := by omega
      rw [List.take_length] at HO
      obtain ⟨A6, c6, rfl, _, _⟩ := own_sl encSp_len HO.out
      have hkr : Bk rb 74 #[.slice none 0 0] wr := ((bTrans HB4.out HB.out).block rb HK2.out.lt).trans HK2.out
      have R0 : wr.cell? ⟨rb, 0, none⟩ = some (.slice none 0 0) := hkr.cell 0
      have G0 : wr.frozen? ⟨rb, 0, none⟩ = false := hkr.frozen 0
      have HFIN : Hid (∀ u, (wr.setCell ⟨rb, 0, none⟩ u).cell? ⟨rb, 0, none⟩ = some u ∧ Below w.heap.size w (wr.setCell ⟨rb, 0, none⟩ u) ∧ OwnSp w.heap.size (.slice A6 (ofS L).length c6) (ofS L) (wr.setCell ⟨rb, 0, none⟩ u)) := Lib.hid fun u => by
        have hb := bTrans HB2.out (bTrans HB4.out HB.out)
        have h1 := own_down HO.out (Nat.le_trans HB2.out.size HB4.out.size)
        exact ⟨(hkr.set_ 0 u).cell 0, hb.setCell (p := ⟨rb, 0, none⟩) HRW.out u, h1.kept (gSet wr 0 u) (.inr fun he => h1.ne_ hkr (by decide) he.symm)⟩
      clear hkr HO
      go_wp2
      obtain ⟨z0, z1, z2⟩ := HFIN.out (.slice A6 (ofS L).length c6)
      exact bodyPost_ret (v := .agg #[.slice A6 (ofS L).length c6]) (by simp [results, Tryz.results68, go_sem, z0]) rfl ⟨⟨A6, c6, rfl, z2⟩, z1⟩
end Go.Proofs.YtlgoaohklggcdaaGreatDoor

namespace Go.Proofs.YtlgoaohklggcdaaGreatDoor
open Go.RowKit Go.Sort

theorem ok_first : Cal.Ok 1900 1 1 := ⟨by decide, by decide, by decide, by decide, by decide, by decide⟩
theorem ok_last : Cal.Ok 2199 12 31 := ⟨by decide, by decide, by decide, by decide, by decide, by decide⟩
set_option maxRecDepth 100000 in
theorem tm_calendar (w : World) (hT : Tab w) : Calls Tryz.prog 55 #[] w fun e w' => e = .returned (.agg #[.int .i64 (-25567), .int .i64 84006]) ∧ Below w.heap.size w w' := by
  obtain ⟨rb, hrb⟩ : ∃ x, w.heap.size = x := ⟨_, rfl⟩
  obtain ⟨w2, hw2⟩ : ∃ x, w.alloc (.cells #[.int .i64 0, .int .i64 0] 31) = x := ⟨_, rfl⟩
  have hk : Bk rb 31 #[.int .i64 0, .int .i64 0] w2 := by rw [← hw2, ← hrb]; exact Bk.new _ _ _
  have hb : Below w.heap.size w w2 := by rw [← hw2]; exact bAlloc _ _
  have hr : Hid (w.heap.size ≤ rb) := Lib.hid (by omega)
  have HB := Lib.hid hb
  have HE := Lib.hid (And.intro hrb hw2)
  have e1 : Cal.num 1900 1 1 - 25567 = -25567 := by decide
  have e2 : Cal.num 2199 12 31 - 25567 = 84005 := by decide
  have h1 := civ_Of 1900 1 1 w2 (hT.grows (by rw [← hw2]; exact .of_alloc _ _)) ok_first
  have h2 : ∀ W, Grows w2 W → Calls Tryz.prog 97 #[.agg #[.int .i64 2199, .int .i64 12, .int .i64 31]] W fun e w' => e = .returned (.tuple #[.int .i64 84005, .int .i64 0]) ∧ Grows W w' := fun W hW => by
    have := civ_Of 2199 12 31 W ((hT.grows (by rw [← hw2]; exact .of_alloc _ _)).grows hW) ok_last
    rwa [e2] at this
  rw [e1] at h1
  have H1 := Lib.hid h1
  have H2 := Lib.hid h2
  have HK := Lib.hid hk
  clear hrb hw2 hb h1 h2 hk e1 e2 hT
  go_enter Tryz.func55, Tryz.ntmps55
  go_upto_region 1 with fail
  rw [HE.out.1, HE.out.2]
  clear HE
  go_wp2_with fail
  refine H1.out.mono ?_
  rintro e w3 ⟨rfl, hg3⟩
  have HG3 := Lib.hid hg3
  have H2' := Lib.hid (H2.out w3 hg3)
  clear hg3 H1 H2
  go_wp2_with fail
  refine H2'.out.mono ?_
  rintro e w4 ⟨rfl, hg4⟩
  have k4 : Bk rb 31 #[.int .i64 0, .int .i64 0] w4 := HK.out.grows (HG3.out.trans hg4)
  have R0 : w4.cell? ⟨rb, 0, none⟩ = some (.int .i64 0) := k4.cell 0
  have R1 : w4.cell? ⟨rb, 1, none⟩ = some (.int .i64 0) := k4.cell 1
  have G0 : w4.frozen? ⟨rb, 0, none⟩ = false := k4.frozen 0
  have G1 : w4.frozen? ⟨rb, 1, none⟩ = false := k4.frozen 1
  have HFIN : Hid (∀ x y, ((w4.setCell ⟨rb, 0, none⟩ x).setCell ⟨rb, 1, none⟩ y).cell? ⟨rb, 0, none⟩ = some x ∧ ((w4.setCell ⟨rb, 0, none⟩ x).setCell ⟨rb, 1, none⟩ y).cell? ⟨rb, 1, none⟩ = some y ∧ Below w.heap.size w ((w4.setCell ⟨rb, 0, none⟩ x).setCell ⟨rb, 1, none⟩ y)) := Lib.hid fun x y => by
    have hz := (k4.set_ 0 x).set_ 1 y
    exact ⟨hz.cell 0, hz.cell 1, ((bTrans HB.out (HG3.out.trans hg4).below).setCell (p := ⟨rb, 0, none⟩) hr.out x).setCell (p := ⟨rb, 1, none⟩) hr.out y⟩
  clear k4 hg4 H2'
  go_wp2
  obtain ⟨z0, z1, z2⟩ := HFIN.out (.int .i64 (-25567)) (.int .i64 84006)
  exact bodyPost_ret (v := .agg #[.int .i64 (-25567), .int .i64 84006]) (by simp [results, Tryz.results55, go_sem, z0, z1]) rfl ⟨rfl, z2⟩
end Go.Proofs.YtlgoaohklggcdaaGreatDoor

namespace Go.Proofs.YtlgoaohklggcdaaGreatDoor
open Go.RowKit Go.Sort

theorem strK_rise (X : List Kn) : ∀ (C : List Int) (s : SS), C.Pairwise (· < ·) → (∀ d ∈ C, s.1 < d) → s.2.2.Pairwise (fun x y => x.1 < y.1) → (∀ p ∈ s.2.2, p.1 < s.1) →
    (C.foldl (strS X) s).2.2.Pairwise (fun x y => x.1 < y.1) ∧ ∀ p ∈ (C.foldl (strS X) s).2.2, p.1 < (C.foldl (strS X) s).1
  | [], s, _, _, h1, h2 => ⟨h1, h2⟩
  | d :: C, s, hp, hd, h1, h2 => by
    rw [List.foldl_cons]
    obtain ⟨hp1, hp2⟩ := List.pairwise_cons.1 hp
    have hsd := hd d (List.mem_cons_self ..)
    unfold strS
    split
    · exact strK_rise X C s hp2 (fun x hx => hd x (List.mem_cons_of_mem _ hx)) h1 h2
    · refine strK_rise X C _ hp2 hp1 ?_ ?_
      · rw [List.pairwise_append]
        refine ⟨h1, List.pairwise_singleton _ _, fun x hx y hy => ?_⟩
        rw [List.mem_singleton.1 hy]
        exact h2 x hx
      · intro p hp3
        rcases List.mem_append.1 hp3 with h | h
        · have := h2 p h; show p.1 < d; omega
        · rw [List.mem_singleton.1 h]; exact hsd
theorem mem_cuts {X : List Kn} {F T d : Int} (h : d ∈ cutsL X F T) : F < d ∧ d < T := by
  unfold cutsL at h
  rcases (mem_foldU d (endsL F T X) []).1 h with h | h
  · unfold endsL at h
    obtain ⟨x, _, hx⟩ := List.mem_flatMap.1 h
    have := (List.mem_filter.1 hx).2
    unfold selB at this
    simpa using this
  · cases h
theorem strL_rise (X : List Kn) (F T : Int) : (strL X F T).Pairwise (fun x y => x.1 < y.1) := by
  unfold strL
  split
  · exact .nil
  · have hr := strK_rise X (cutsL X F T) (F, plc X F X.length, []) (sorted_foldU _ _ .nil) (fun d hd => (mem_cuts hd).1) .nil (fun p hp => by cases hp)
    rw [List.pairwise_append]
    exact ⟨hr.1, List.pairwise_singleton _ _, fun x hx y hy => by rw [List.mem_singleton.1 hy]; exact hr.2 x hx⟩
/-- The spans of pieces with the number 1. -/
def onesP (l : List Pc) : List Spn := l.filterMap fun p => if p.2.2.2.1 = 1 then some (p.1, p.2.1) else none
theorem onesP_take {l : List Pc} {k : Nat} {p : Pc} (h : l[k]? = some p) : onesP (l.take (k + 1)) = onesP (l.take k) ++ (if p.2.2.2.1 = 1 then [(p.1, p.2.1)] else []) := by
  unfold onesP
  rw [List.take_add_one, h, List.filterMap_append]
  congr 1
  by_cases h0 : p.2.2.2.1 = 1 <;> simp [h0]
theorem onesP_len (l : List Pc) : (onesP l).length ≤ l.length := List.length_filterMap_le _ _
theorem ones_rise (X : List Kn) (F T : Int) : (onesP (overX X F T)).Pairwise (fun x y => x.1 < y.1) := by
  unfold onesP overX ovrS
  rw [List.filterMap_filterMap, List.pairwise_filterMap]
  refine (strL_rise X F T).imp fun {x y} h a ha b hb => ?_
  cases hx : (if 0 ≤ x.2.2 then some (x.1, x.2.1, valL X x.2.2) else none : Option Pc) with
  | none => rw [hx] at ha; cases ha
  | some u =>
    cases hy : (if 0 ≤ y.2.2 then some (y.1, y.2.1, valL X y.2.2) else none : Option Pc) with
    | none => rw [hy] at hb; cases hb
    | some v =>
      rw [hx] at ha
      rw [hy] at hb
      split at hx
      · cases hx
        split at hy
        · cases hy
          simp only [Option.bind_some] at ha hb
          split at ha
          · cases ha
            split at hb
            · cases hb
              exact h
            · cases hb
          · cases ha
        · cases hy
      · cases hx
theorem strL_len {X : List Kn} (F T : Int) (hX : X.length ≤ 4096) : (strL X F T).length ≤ 10001 := by
  unfold strL
  split
  · simp
  · have h1 := strK_len X F (cutsL X F T) (F, plc X F X.length, [])
    have h2 := foldU_len (endsL F T X) []
    have h3 := ends_len F T X
    unfold strK
    unfold cutsL at *
    simp only [List.length_append, List.length_nil, List.length_singleton] at *
    omega
/-- On which days a person is employed, by the facts. -/
def emplX (X : List Kn) (F T : Int) : List Spn := ofS (onesP (overX X (crossS F T (-25567) 84006).1 (crossS F T (-25567) 84006).2))
def spSl {α : Type} (enc : α → List Value) (k : Nat) (L : List α) : Sp := ⟨fun v w => ∃ A c, v = .slice A L.length c ∧ Sl enc k w w.heap.size A L, fun _ _ _ ⟨A, c, h1, h2⟩ hb => ⟨A, c, h1, sl_bel h2 hb⟩⟩
def spLine (X : List Kn) : Sp := ⟨fun v w => ∃ A c, v = .agg #[.slice A X.length c] ∧ SlK1 w A X, fun _ _ _ ⟨A, c, h1, h2⟩ hb => ⟨A, c, h1, sl_bel h2 hb⟩⟩
theorem li_Over (X : List Kn) (F T : Int) (A : Option Addr) (cap : Nat) (w : World) (hX : X.length ≤ 4096) (hs : SlK1 w A X) :
    Calls Tryz.prog 67 #[.agg #[.slice A X.length cap], .agg #[.int .i64 F, .int .i64 T]] w fun e w' => ∃ A' c', e = .returned (.slice A' (overX X F T).length c') ∧ Below w.heap.size w w' ∧ Sl encPc 5 w' w'.heap.size A' (overX X F T) :=
  (callsIn_wide.1 (li_Over_in X F T A cap w hX hs)).mono fun e w' ⟨⟨v, h1, h2⟩, h3⟩ => by
    obtain ⟨A', c', rfl, _, h4⟩ := own_sl encPc_len h2
    exact ⟨A', c', h1, h3, h4⟩
theorem spLine_of {B : Nat} {A : Option Addr} {c : Nat} {X : List Kn} {w : World} (h : OwnK B (.slice A X.length c) X w) : (spLine X).p (.agg #[.slice A X.length c]) w := by
  obtain ⟨A', c', e, _, h2⟩ := own_sl encK_len h
  injection e with e1 _ e3
  subst e1; subst e3
  exact ⟨_, _, rfl, h2⟩
set_option maxHeartbeats 8000000 in
set_option maxRecDepth 100000 in
theorem tm_Employed (L : List Fa) (AV : Option Addr) (cV : Nat) (pe F T : Int) (w : World) (hn : L.length ≤ 4096) (hs : SlF w AV L) (hT : Tab w) :
    Calls Tryz.prog 26 #[.agg #[.slice AV L.length cV], .int .u32 pe, .agg #[.int .i64 F, .int .i64 T]] w fun e w' => (∃ A' c', e = .returned (.agg #[.slice A' (emplX (chosen (ofPK pe 1) L L.length) F T).length c']) ∧ OwnSp w.heap.size (.slice A' (emplX (chosen (ofPK pe 1) L L.length) F T).length c') (emplX (chosen (ofPK pe 1) L L.length) F T) w') ∧ Below w.heap.size w w' := by
  obtain ⟨vb, hvb⟩ : ∃ x, w.heap.size = x := ⟨_, rfl⟩
  obtain ⟨sb, hsb⟩ : ∃ x, vb + 1 = x := ⟨_, rfl⟩
  obtain ⟨rb, hrb⟩ : ∃ x, sb + 1 = x := ⟨_, rfl⟩
  obtain ⟨w2, hw2⟩ : ∃ x, ((w.alloc (.cells #[.slice AV L.length cV] 27)).alloc (.cells #[.int .i64 F, .int .i64 T] 31)).alloc (.cells #[.slice none 0 0] 74) = x := ⟨_, rfl⟩
  obtain ⟨k1, k2, k3, hb2⟩ := bkk3 w _ _ _ _ _ _ hvb hsb hrb hw2
  have HRW : Hid (w.heap.size ≤ rb) := Lib.hid (by omega)
  have HB2 := Lib.hid hb2
  obtain ⟨X, hX⟩ : ∃ X, chosen (ofPK pe 1) L L.length = X := ⟨_, rfl⟩
  have hXl : X.length ≤ 4096 := by rw [← hX]; exact Nat.le_trans (chosen_len _ _ _) hn
  have HC : Hid (∀ W, Below w2.heap.size w2 W → W.cell? ⟨vb, 0, none⟩ = some (.slice AV L.length cV) ∧ W.cell? ⟨sb, 0, none⟩ = some (.int .i64 F) ∧ W.cell? ⟨sb, 1, none⟩ = some (.int .i64 T) ∧ Tab W) := Lib.hid fun W hW => ⟨bCell hW (k1.cell 0), bCell hW (k2.cell 0), bCell hW (k2.cell 1), ⟨Nat.lt_of_lt_of_le hT.1 (bTrans hb2 hW).size, fun i hi => bCell (bTrans hb2 hW) (hT.2 i hi)⟩⟩
  have HFA : Hid (∀ W, Below w2.heap.size w2 W → Calls Tryz.prog 50 #[.agg #[.slice AV L.length cV], .int .u32 pe, .int .i64 1] W fun e w' => ∃ A c, e = .returned (.slice A X.length c) ∧ Below W.heap.size W w' ∧ Sl encK 9 w' w'.heap.size A X) := Lib.hid fun W hW => (vi_Facts L AV cV pe 1 W hn (hs.below (bTrans hb2 hW))).mono fun e w' ⟨⟨v, h1, h2⟩, h3⟩ => by
    rw [hX] at h2
    obtain ⟨A, c, rfl, _, h4⟩ := own_sl encK_len h2
    exact ⟨A, c, h1, h3, h4⟩
  obtain ⟨P, hP⟩ : ∃ P, overX X (crossS F T (-25567) 84006).1 (crossS F T (-25567) 84006).2 = P := ⟨_, rfl⟩
  have HOV : Hid (∀ W A c, SlK1 W A X → Calls Tryz.prog 67 #[.agg #[.slice A X.length c], .agg #[.int .i64 (crossS F T (-25567) 84006).1, .int .i64 (crossS F T (-25567) 84006).2]] W fun e w' => ∃ A' c', e = .returned (.slice A' P.length c') ∧ Below W.heap.size W w' ∧ Sl encPc 5 w' w'.heap.size A' P) := Lib.hid fun W A c h => by
    have := li_Over X (crossS F T (-25567) 84006).1 (crossS F T (-25567) 84006).2 A c W hXl h
    rwa [hP] at this
  have hPl : P.length ≤ 20000 := by
    rw [← hP]
    have h1 := ovrS_len X (strL X (crossS F T (-25567) 84006).1 (crossS F T (-25567) 84006).2)
    have h2 := strL_len (X := X) (crossS F T (-25567) 84006).1 (crossS F T (-25567) 84006).2 hXl
    unfold overX
    omega
  have HRI : Hid ((onesP P).Pairwise (fun x y => x.1 < y.1)) := Lib.hid (by rw [← hP]; exact ones_rise X _ _)
  have HV : Hid (emplX (chosen (ofPK pe 1) L L.length) F T = ofS (onesP P)) := Lib.hid (by unfold emplX; rw [hX, hP])
  rw [HV.out]
  have HK3 := Lib.hid k3
  have HE2 := Lib.hid (And.intro hvb (And.intro hsb (And.intro hrb hw2)))
  clear hvb hsb hrb hw2 k1 k2 k3 hb2 hs hT hX hP hn HV
  go_enter Tryz.func26, Tryz.ntmps26
  go_upto_region 1 with fail
  rw [HE2.out.1, HE2.out.2.1, HE2.out.2.2.1, HE2.out.2.2.2]
  clear HE2
  go_upto_region 2 with fail
  go_cut [17, 18, 19] from 10 to 19 (fun pv lv iv wx => (∃ A17 c17, pv = .slice A17 P.length c17 ∧ Hid (Sl encPc 5 wx wx.heap.size A17 P)) ∧ lv = .int .i64 P.length ∧ iv = .int .i64 0 ∧ Hid (Below w2.heap.size w2 wx))
  case first =>
    refine wp_region_mk (SPS [(1, Sp.val (.int .u32 pe)), (3, Sp.val (.pointer (some ⟨vb, 0, none⟩))), (5, Sp.val (.pointer (some ⟨sb, 0, none⟩))), (10, Sp.val (.agg #[.slice AV L.length cV])), (11, Sp.val (.int .u32 pe)), (12, (spSl encK 9 X)), (13, (spLine X)), (14, Sp.val (.agg #[.int .i64 F, .int .i64 T])), (15, Sp.val (.agg #[.int .i64 (-25567), .int .i64 84006])), (16, Sp.val (.agg #[.int .i64 (crossS F T (-25567) 84006).1, .int .i64 (crossS F T (-25567) 84006).2])), (17, (spSl encPc 5 P)), (18, Sp.val (.int .i64 P.length)), (19, Sp.val (.int .i64 0))]) [] [10, 11, 12, 13, 14, 15, 16, 17, 18, 19] rfl (by rfl) (by kernel_rfl) (SPS.st _) ?_ ?_ ?_ (by decide) (by rfl) ?_ (opsK_all ?_) ?_
    · exact nil_all
    · exact nil_all
    · exact nil_all
    · exact sps_start (cons_all rfl (cons_all rfl (cons_all rfl (nil_all))))
    · refine opsK_cons (by
       exact kind_n (opOk_load (p := ⟨vb, 0, none⟩) rfl rfl (.inl rfl) (by kernel_rfl) (fun _ _ h => h.get rfl) (fun W hW => by
          obtain ⟨k0, k1, k2, _⟩ := HC.out _ hW
          exact ⟨.agg #[.slice AV L.length cV], by go_simp, sps rfl rfl⟩)) (by decide)) ?_
      refine opsK_cons (by
       exact kind_n (opOk_move rfl rfl (.inl rfl) (by kernel_rfl) (fun _ _ h => sps rfl (h.get rfl))) (by decide)) ?_
      refine opsK_cons (by
       exact kind_n (opOk_callg (fun a => #[a.eval (.tmp 10), a.eval (.tmp 11), .int .i64 1]) rfl rfl (.inl rfl) (fun a => by simp only [List.map_toArray, List.map_cons, List.map_nil] <;> rfl) (fun args W => by go_simp) (fun a W hW hsp => by
          have e10 : a.eval (.tmp 10) = .agg #[.slice AV L.length cV] := (hsp 10 (by kernel_rfl)).get rfl
          have e11 : a.eval (.tmp 11) = .int .u32 pe := (hsp 11 (by kernel_rfl)).get rfl
          simp only [e10, e11]
          exact (HFA.out _ hW).mono fun e w' ⟨A, c, he, hb, hs⟩ => ⟨_, he, hb, sps rfl ⟨A, c, rfl, hs⟩⟩)) (by decide)) ?_
      refine opsK_cons (by
       exact kind_n (opOk_callg (fun a => #[a.eval (.tmp 12)]) rfl rfl (.inl rfl) (fun a => by simp only [List.map_toArray, List.map_cons, List.map_nil] <;> rfl) (fun args W => by go_simp) (fun a W hW hsp => by
          obtain ⟨A12, c12, hv, hs12⟩ := (hsp 12 (by kernel_rfl)).get rfl
          have e12 : a.eval (.tmp 12) = .slice A12 X.length c12 := hv
          simp only [e12]
          exact (li_Of X A12 c12 _ (by omega) hs12).mono fun e w' ⟨⟨A, c, he, ho⟩, hb⟩ => ⟨_, he, hb, sps rfl (spLine_of ho)⟩)) (by decide)) ?_
      refine opsK_cons (by
       exact kind_n (opOk_load (p := ⟨sb, 0, none⟩) rfl rfl (.inl rfl) (by kernel_rfl) (fun _ _ h => h.get rfl) (fun W hW => by
          obtain ⟨k0, k1, k2, _⟩ := HC.out _ hW
          exact ⟨.agg #[.int .i64 F, .int .i64 T], by go_simp, sps rfl rfl⟩)) (by decide)) ?_
      refine opsK_cons (by
       exact kind_n (opOk_callg (fun a => #[]) rfl rfl (.inl rfl) (fun a => by simp only [List.map_toArray, List.map_nil] <;> rfl) (fun args W => by go_simp) (fun a W hW hsp => by
          
          exact (tm_calendar _ (HC.out _ hW).2.2.2).mono fun e w' ⟨he, hb⟩ => ⟨_, he, hb, sps rfl rfl⟩)) (by decide)) ?_
      refine opsK_cons (by
       exact kind_n (opOk_callg (fun a => #[a.eval (.tmp 14), a.eval (.tmp 15)]) rfl rfl (.inl rfl) (fun a => by simp only [List.map_toArray, List.map_cons, List.map_nil] <;> rfl) (fun args W => by go_simp) (fun a W hW hsp => by
          have e14 : a.eval (.tmp 14) = .agg #[.int .i64 F, .int .i64 T] := (hsp 14 (by kernel_rfl)).get rfl
          have e15 : a.eval (.tmp 15) = .agg #[.int .i64 (-25567), .int .i64 84006] := (hsp 15 (by kernel_rfl)).get rfl
          simp only [e14, e15]
          exact (sp_Cross _ _ _ _ _).mono fun e w' ⟨he, hb⟩ => ⟨_, he, hb, sps rfl rfl⟩)) (by decide)) ?_
      refine opsK_cons (by
       exact kind_n (opOk_callg (fun a => #[a.eval (.tmp 13), a.eval (.tmp 16)]) rfl rfl (.inl rfl) (fun a => by simp only [List.map_toArray, List.map_cons, List.map_nil] <;> rfl) (fun args W => by go_simp) (fun a W hW hsp => by
          obtain ⟨A13, c13, hv, hs13⟩ := (hsp 13 (by kernel_rfl)).get rfl
          have e13 : a.eval (.tmp 13) = .agg #[.slice A13 X.length c13] := hv
          have e16 : a.eval (.tmp 16) = .agg #[.int .i64 (crossS F T (-25567) 84006).1, .int .i64 (crossS F T (-25567) 84006).2] := (hsp 16 (by kernel_rfl)).get rfl
          simp only [e13, e16]
          exact (HOV.out _ A13 c13 hs13).mono fun e w' ⟨A, c, he, hb, hs⟩ => ⟨_, he, hb, sps rfl ⟨A, c, rfl, hs⟩⟩)) (by decide)) ?_
      refine opsK_cons (by
       exact kind_n (opOk_run rfl (.inl rfl) (fun a W hW hsp => by
          obtain ⟨A17, c17, hv, hs17⟩ := (hsp 17 (by kernel_rfl)).get rfl
          have e17 : a.eval (.tmp 17) = .slice A17 P.length c17 := hv
          refine ⟨.int .i64 P.length, ?_, sps rfl rfl⟩
          unfold execOp
          go_simp)) (by decide)) ?_
      refine opsK_cons (by
       exact kind_n (opOk_run rfl (.inl rfl) (fun a W hW hsp => by
          refine ⟨.int .i64 0, ?_, sps rfl rfl⟩
          unfold execOp
          go_simp)) (by decide)) ?_
      exact opsK_nil
    · intro vs W3 hb hsp _
      obtain ⟨A17, c17, z17, hs17⟩ := (hsp 17).get rfl
      have z18 := (hsp 18).get rfl
      have z19 := (hsp 19).get rfl
      simp only [putAll]
      go_simp
      go_step
      go_meet
      exact ⟨⟨A17, c17, by first | rfl | exact z17, Lib.hid hs17⟩, by first | rfl | exact z18, by first | rfl | exact z19, Lib.hid hb⟩
  case rest =>
    obtain ⟨⟨A17, c17, rfl, HSP⟩, rfl, rfl, HBc⟩ := hcut
    obtain ⟨w3, rfl⟩ : ∃ x : World, x = wc := ⟨_, rfl⟩
    have HP : Hid (∀ W, Below w3.heap.size w3 W → Sl encPc 5 W W.heap.size A17 P) := Lib.hid fun W hW => sl_bel HSP.out hW
    clear HC HFA HOV HSP
    go_wp2
    go_loopw [7, 19] (fun ov iv wr => ∃ k : Nat, k ≤ P.length ∧ iv = .int .i64 k ∧ Hid (OwnSp w3.heap.size ov (onesP (P.take k)) wr) ∧ Hid (Below w3.heap.size w3 wr)) (fun _ iv _ => P.length - (intOf iv).toNat)
    case atStart => exact ⟨0, Nat.zero_le _, rfl, Lib.hid (Own.nil _), Lib.hid (Below.refl _ _)⟩
    case round =>
      obtain ⟨k, hk, rfl, HO, HB⟩ := hrel
      by_cases hlt : k < P.length
      · obtain ⟨x, hx⟩ : ∃ x, P[k]? = some x := ⟨_, List.getElem?_eq_getElem hlt⟩
        obtain ⟨b, off, rfl, hbl, hat⟩ := HP.out wr HB.out (by intro h; simp [h] at hlt)
        have G0 := hat k x hx 0 _ rfl
        have G1 := hat k x hx 1 _ rfl
        have G2 := hat k x hx 2 _ rfl
        have G3 := hat k x hx 3 _ rfl
        have G4 := hat k x hx 4 _ rfl
        simp only [Nat.add_zero] at G0
        have hlt2 : (k : Int) < (P.length : Int) := by omega
        have HT := Lib.hid (onesP_take hx)
        have HLE : (onesP (P.take k)).length + 1 ≤ 1000000000 := by
          have := onesP_len (P.take k)
          rw [List.length_take] at this
          omega
        obtain ⟨kb, hkb⟩ : ∃ z, wr.heap.size = z := ⟨_, rfl⟩
        obtain ⟨w5, hw5⟩ : ∃ z, wr.alloc (.cells #[.int .i64 x.1, .int .i64 x.2.1, .int .i64 x.2.2.1, .int .i64 x.2.2.2.1, .string x.2.2.2.2] 152) = z := ⟨_, rfl⟩
        have hk5 : Bk kb 152 #[.int .i64 x.1, .int .i64 x.2.1, .int .i64 x.2.2.1, .int .i64 x.2.2.2.1, .string x.2.2.2.2] w5 := by rw [← hw5, ← hkb]; exact Bk.new _ _ _
        have hb5 : Below wr.heap.size wr w5 := by rw [← hw5]; exact bAlloc wr _
        have HB5 : Hid (Below w3.heap.size w3 w5) := Lib.hid (bTrans HB.out hb5)
        have HO5 := Lib.hid (own_bel HO.out hb5)
        have P0 : w5.cell? ⟨kb, 0, none⟩ = some (.int .i64 x.1) := hk5.cell 0
        have P1 : w5.cell? ⟨kb, 1, none⟩ = some (.int .i64 x.2.1) := hk5.cell 1
        have P3 : w5.cell? ⟨kb, 3, none⟩ = some (.int .i64 x.2.2.2.1) := hk5.cell 3
        have HSZ : Hid (w3.heap.size ≤ w5.heap.size) := Lib.hid HB5.out.size
        have HE := Lib.hid (And.intro hkb hw5)
        clear hat hx hkb hw5 hk5 hb5 HO HB
        go_upto_region 5 with fail
        rw [HE.out.1, HE.out.2]
        clear G0 G1 G2 G3 G4 HE
        by_cases h1 : x.2.2.2.1 = 1
        · have b1 : (x.2.2.2.1 == 1) = true := beq_iff_eq.2 h1
          have HT2 : Hid (onesP (P.take (k + 1)) = onesP (P.take k) ++ [(x.1, x.2.1)]) := Lib.hid (by rw [HT.out, if_pos h1])
          clear h1 HT
          go_wp2_with ((at_builtin; refine wpList_append_row encSp_len encSp_one rfl _ _ 72 rfl w3.heap.size 31 _ 16 Tryz.underlying72 spanInfo rfl (by decide) _ (onesP (P.take k)) (x.1, x.2.1) rfl (HO5.out.alloc _) w5.heap.size 1 rfl (newsSp (x.1, x.2.1) w5) HLE (by decide) (Nat.le_trans HSZ.out (Grows.of_alloc _ _).size) ?_))
          intro v6 w6 hown6 hgr6
          have HB6 : Hid (Below w3.heap.size w3 w6) := Lib.hid (belowSp (bTrans HB5.out (bAlloc w5 _)) (Nat.le_trans HSZ.out (Grows.of_alloc _ _).size) (HO5.out.alloc _) hgr6)
          have HO6 : Hid (OwnSp w3.heap.size v6 (onesP (P.take (k + 1))) w6) := Lib.hid (by rw [HT2.out]; exact hown6)
          clear hown6 hgr6
          go_wp2
          exact ⟨⟨k + 1, by omega, by go_num, HO6, HB6⟩, by simp [intOf]; omega⟩
        · have b1 : (x.2.2.2.1 == 1) = false := beq_eq_false_iff_ne.2 h1
          have HT2 : Hid (onesP (P.take (k + 1)) = onesP (P.take k)) := Lib.hid (by rw [HT.out, if_neg h1, List.append_nil])
          clear h1 HT
          go_wp2
          exact ⟨⟨k + 1, by omega, by go_num, Lib.hid (by rw [HT2.out]; exact HO5.out), HB5⟩, by simp [intOf]; omega⟩
      · obtain rfl : k = P.length := by omega
        rw [List.take_length] at HO
        have hol := onesP_len P
        obtain ⟨A6, c6, rfl, _, hs6⟩ := own_sl encSp_len HO.out
        have HOF := Lib.hid (sp_Of (onesP P) A6 c6 wr (by omega) hs6 HRI.out)
        have HB2c : Hid (Below w2.heap.size w2 wr) := Lib.hid (bTrans HBc.out HB.out)
        clear hs6 hol HO
        go_wp2_with fail
        refine HOF.out.mono ?_
        rintro e w7 ⟨⟨A7, c7, rfl, ho7⟩, hb7⟩
        have hkr : Bk rb 74 #[.slice none 0 0] w7 := ((bTrans HB2c.out hb7).block rb HK3.out.lt).trans HK3.out
        have R0 : w7.cell? ⟨rb, 0, none⟩ = some (.slice none 0 0) := hkr.cell 0
        have G0 : w7.frozen? ⟨rb, 0, none⟩ = false := hkr.frozen 0
        have HFIN : Hid (∀ u, (w7.setCell ⟨rb, 0, none⟩ u).cell? ⟨rb, 0, none⟩ = some u ∧ Below w.heap.size w (w7.setCell ⟨rb, 0, none⟩ u) ∧ OwnSp w.heap.size (.slice A7 (ofS (onesP P)).length c7) (ofS (onesP P)) (w7.setCell ⟨rb, 0, none⟩ u)) := Lib.hid fun u => by
          have hb := bTrans HB2.out (bTrans HB2c.out hb7)
          have h1 := own_down ho7 (Nat.le_trans HB2.out.size HB2c.out.size)
          exact ⟨(hkr.set_ 0 u).cell 0, hb.setCell (p := ⟨rb, 0, none⟩) HRW.out u, h1.kept (gSet w7 0 u) (.inr fun he => h1.ne_ hkr (by decide) he.symm)⟩
        clear hkr ho7 hb7 HOF
        go_wp2
        obtain ⟨z0, z1, z2⟩ := HFIN.out (.slice A7 (ofS (onesP P)).length c7)
        exact bodyPost_ret (v := .agg #[.slice A7 (ofS (onesP P)).length c7]) (by simp [results, Tryz.results26, go_sem, z0]) rfl ⟨⟨A7, c7, rfl, z2⟩, z1⟩
end Go.Proofs.YtlgoaohklggcdaaGreatDoor

namespace Go.Proofs.YtlgoaohklggcdaaGreatDoor
open Go.RowKit Go.Sort

def firstS (E : List Spn) : Int × Bool := match E with
  | [] => (0, false)
  | s :: _ => (s.1, true)
def spSet (E : List Spn) : Sp := ⟨fun v w => ∃ A c, v = .agg #[.slice A E.length c] ∧ Sl encSp 2 w w.heap.size A E, fun _ _ _ ⟨A, c, h1, h2⟩ hb => ⟨A, c, h1, sl_bel h2 hb⟩⟩
set_option maxHeartbeats 4000000 in
set_option maxRecDepth 100000 in
theorem tm_First (L : List Fa) (AV : Option Addr) (cV : Nat) (pe : Int) (w : World) (hn : L.length ≤ 4096) (hs : SlF w AV L) (hT : Tab w) :
    Calls Tryz.prog 29 #[.agg #[.slice AV L.length cV], .int .u32 pe] w fun e w' => e = .returned (.tuple #[.int .i64 (firstS (emplX (chosen (ofPK pe 1) L L.length) (-25567) 84006)).1, .bool (firstS (emplX (chosen (ofPK pe 1) L L.length) (-25567) 84006)).2]) ∧ Below w.heap.size w w' := by
  obtain ⟨vb, hvb⟩ : ∃ x, w.heap.size = x := ⟨_, rfl⟩
  obtain ⟨w2, hw2⟩ : ∃ x, w.alloc (.cells #[.slice AV L.length cV] 27) = x := ⟨_, rfl⟩
  have hk : Bk vb 27 #[.slice AV L.length cV] w2 := by rw [← hw2, ← hvb]; exact Bk.new _ _ _
  have hb2 : Below w.heap.size w w2 := by rw [← hw2]; exact bAlloc _ _
  have HB2 := Lib.hid hb2
  have hTW : ∀ W, Below w2.heap.size w2 W → Tab W := fun W hW => ⟨Nat.lt_of_lt_of_le hT.1 (bTrans hb2 hW).size, fun i hi => bCell (bTrans hb2 hW) (hT.2 i hi)⟩
  have HC : Hid (∀ W, Below w2.heap.size w2 W → W.cell? ⟨vb, 0, none⟩ = some (.slice AV L.length cV) ∧ Tab W) := Lib.hid fun W hW => ⟨bCell hW (hk.cell 0), hTW W hW⟩
  obtain ⟨E, hE⟩ : ∃ E, emplX (chosen (ofPK pe 1) L L.length) (-25567) 84006 = E := ⟨_, rfl⟩
  have hEl : E.length ≤ 50000 := by
    rw [← hE]
    have h0 : (chosen (ofPK pe 1) L L.length).length ≤ 4096 := Nat.le_trans (chosen_len _ _ _) hn
    unfold emplX
    have h1 := ofS_len (onesP (overX (chosen (ofPK pe 1) L L.length) (crossS (-25567) 84006 (-25567) 84006).1 (crossS (-25567) 84006 (-25567) 84006).2)) []
    have h2 := onesP_len (overX (chosen (ofPK pe 1) L L.length) (crossS (-25567) 84006 (-25567) 84006).1 (crossS (-25567) 84006 (-25567) 84006).2)
    have h3 := ovrS_len (chosen (ofPK pe 1) L L.length) (strL (chosen (ofPK pe 1) L L.length) (crossS (-25567) 84006 (-25567) 84006).1 (crossS (-25567) 84006 (-25567) 84006).2)
    have h4 := strL_len (X := chosen (ofPK pe 1) L L.length) (crossS (-25567) 84006 (-25567) 84006).1 (crossS (-25567) 84006 (-25567) 84006).2 h0
    simp only [List.length_nil] at h1
    unfold ofS
    unfold overX at *
    omega
  have HEM : Hid (∀ W, Below w2.heap.size w2 W → Calls Tryz.prog 26 #[.agg #[.slice AV L.length cV], .int .u32 pe, .agg #[.int .i64 (-25567), .int .i64 84006]] W fun e w' => ∃ A c, e = .returned (.agg #[.slice A E.length c]) ∧ Below W.heap.size W w' ∧ Sl encSp 2 w' w'.heap.size A E) := Lib.hid fun W hW => (tm_Employed L AV cV pe (-25567) 84006 W hn (hs.below (bTrans hb2 hW)) (hTW W hW)).mono fun e w' ⟨⟨A, c, h1, h2⟩, h3⟩ => by
    rw [hE] at h1 h2
    obtain ⟨A', c', e', _, h4⟩ := own_sl encSp_len h2
    injection e' with e1 _ e3
    subst e1; subst e3
    exact ⟨_, _, h1, h3, h4⟩
  have HAL : Hid (∀ W A c, Sl encSp 2 W W.heap.size A E → Calls Tryz.prog 72 #[.agg #[.slice A E.length c]] W fun e w' => ∃ A' c', e = .returned (.slice A' E.length c') ∧ Below W.heap.size W w' ∧ Sl encSp 2 w' w'.heap.size A' E) := Lib.hid fun W A c h => (set_All E A c W (by omega) h).mono fun e w' ⟨⟨A', c', h1, h2⟩, h3⟩ => by
    obtain ⟨A2, c2, e', _, h4⟩ := own_sl encSp_len h2
    injection e' with e1 _ e3
    subst e1; subst e3
    exact ⟨_, _, h1, h3, h4⟩
  have HE2 := Lib.hid (And.intro hvb hw2)
  have HEE := Lib.hid hE
  rw [hE]
  clear hvb hw2 hk hb2 hs hT hTW hE hn
  go_enter Tryz.func29, Tryz.ntmps29
  go_upto_region 1 with fail
  rw [HE2.out.1, HE2.out.2]
  clear HE2
  go_cut [12, 13, 14] from 8 to 14 (fun pv lv iv wx => (∃ A12 c12, pv = .slice A12 E.length c12 ∧ Hid (Sl encSp 2 wx wx.heap.size A12 E)) ∧ lv = .int .i64 E.length ∧ iv = .int .i64 0 ∧ Hid (Below w2.heap.size w2 wx))
  case first =>
    refine wp_region_mk (SPS [(1, Sp.val (.int .u32 pe)), (2, Sp.val (.pointer (some ⟨vb, 0, none⟩))), (8, Sp.val (.agg #[.slice AV L.length cV])), (9, Sp.val (.int .u32 pe)), (10, Sp.val (.agg #[.int .i64 (-25567), .int .i64 84006])), (11, (spSet E)), (12, (spSl encSp 2 E)), (13, Sp.val (.int .i64 E.length)), (14, Sp.val (.int .i64 0))]) [] [8, 9, 10, 11, 12, 13, 14] rfl (by rfl) (by kernel_rfl) (SPS.st _) ?_ ?_ ?_ (by decide) (by rfl) ?_ (opsK_all ?_) ?_
    · exact nil_all
    · exact nil_all
    · exact nil_all
    · exact sps_start (cons_all rfl (cons_all rfl (nil_all)))
    · refine opsK_cons (by
       exact kind_n (opOk_load (p := ⟨vb, 0, none⟩) rfl rfl (.inl rfl) (by kernel_rfl) (fun _ _ h => h.get rfl) (fun W hW => by
          obtain ⟨k0, k1⟩ := HC.out _ hW
          exact ⟨.agg #[.slice AV L.length cV], by go_simp, sps rfl rfl⟩)) (by decide)) ?_
      refine opsK_cons (by
       exact kind_n (opOk_move rfl rfl (.inl rfl) (by kernel_rfl) (fun _ _ h => sps rfl (h.get rfl))) (by decide)) ?_
      refine opsK_cons (by
       exact kind_n (opOk_callg (fun a => #[]) rfl rfl (.inl rfl) (fun a => by simp only [List.map_toArray, List.map_nil] <;> rfl) (fun args W => by go_simp) (fun a W hW hsp => by
          
          exact (tm_calendar _ (HC.out _ hW).2).mono fun e w' ⟨he, hb⟩ => ⟨_, he, hb, sps rfl rfl⟩)) (by decide)) ?_
      refine opsK_cons (by
       exact kind_n (opOk_callg (fun a => #[a.eval (.tmp 8), a.eval (.tmp 9), a.eval (.tmp 10)]) rfl rfl (.inl rfl) (fun a => by simp only [List.map_toArray, List.map_cons, List.map_nil] <;> rfl) (fun args W => by go_simp) (fun a W hW hsp => by
          have e8 : a.eval (.tmp 8) = .agg #[.slice AV L.length cV] := (hsp 8 (by kernel_rfl)).get rfl
          have e9 : a.eval (.tmp 9) = .int .u32 pe := (hsp 9 (by kernel_rfl)).get rfl
          have e10 : a.eval (.tmp 10) = .agg #[.int .i64 (-25567), .int .i64 84006] := (hsp 10 (by kernel_rfl)).get rfl
          simp only [e8, e9, e10]
          exact (HEM.out _ hW).mono fun e w' ⟨A, c, he, hb, hs⟩ => ⟨_, he, hb, sps rfl ⟨A, c, rfl, hs⟩⟩)) (by decide)) ?_
      refine opsK_cons (by
       exact kind_n (opOk_callg (fun a => #[a.eval (.tmp 11)]) rfl rfl (.inl rfl) (fun a => by simp only [List.map_toArray, List.map_cons, List.map_nil] <;> rfl) (fun args W => by go_simp) (fun a W hW hsp => by
          obtain ⟨A11, c11, hv, hs11⟩ := (hsp 11 (by kernel_rfl)).get rfl
          have e11 : a.eval (.tmp 11) = .agg #[.slice A11 E.length c11] := hv
          simp only [e11]
          exact (HAL.out _ A11 c11 hs11).mono fun e w' ⟨A, c, he, hb, hs⟩ => ⟨_, he, hb, sps rfl ⟨A, c, rfl, hs⟩⟩)) (by decide)) ?_
      refine opsK_cons (by
       exact kind_n (opOk_run rfl (.inl rfl) (fun a W hW hsp => by
          obtain ⟨A12, c12, hv, hs12⟩ := (hsp 12 (by kernel_rfl)).get rfl
          have e12 : a.eval (.tmp 12) = .slice A12 E.length c12 := hv
          refine ⟨.int .i64 E.length, ?_, sps rfl rfl⟩
          unfold execOp
          go_simp)) (by decide)) ?_
      refine opsK_cons (by
       exact kind_n (opOk_run rfl (.inl rfl) (fun a W hW hsp => by
          refine ⟨.int .i64 0, ?_, sps rfl rfl⟩
          unfold execOp
          go_simp)) (by decide)) ?_
      exact opsK_nil
    · intro vs W3 hb hsp _
      obtain ⟨A12, c12, z12, hs12⟩ := (hsp 12).get rfl
      have z13 := (hsp 13).get rfl
      have z14 := (hsp 14).get rfl
      simp only [putAll]
      go_simp
      go_step
      go_meet
      exact ⟨⟨A12, c12, by first | rfl | exact z12, Lib.hid hs12⟩, by first | rfl | exact z13, by first | rfl | exact z14, Lib.hid hb⟩
  case rest =>
    obtain ⟨⟨A12, c12, rfl, HSP⟩, rfl, rfl, HBc⟩ := hcut
    obtain ⟨w3, rfl⟩ : ∃ x : World, x = wc := ⟨_, rfl⟩
    clear HC HEM HAL HEE
    cases E with
    | nil =>
      have HV : Hid (firstS [] = (0, false)) := Lib.hid rfl
      go_wp2
      go_loopw [14] (fun iv wr => iv = .int .i64 0 ∧ wr = w3) (fun _ _ => 0)
      case atStart => exact ⟨rfl, rfl⟩
      case round =>
        obtain ⟨rfl, rfl⟩ := hrel
        go_wp2
        exact bodyPost_ret (v := .tuple #[.int .i64 0, .bool false]) (by simp [results, Tryz.results29, go_sem]) rfl ⟨rfl, bTrans HB2.out HBc.out⟩
    | cons s E =>
      obtain ⟨b, off, rfl, hbl, hat⟩ := HSP.out (by simp)
      have G0 := hat 0 s rfl 0 _ rfl
      have G1 := hat 0 s rfl 1 _ rfl
      simp only [Nat.add_zero, Nat.zero_mul] at G0 G1
      have hl : (0 : Int) < ((E.length : Int) + 1) := by omega
      clear hat HSP
      go_wp2
      go_loopw [14] (fun iv wr => iv = .int .i64 0 ∧ wr = w3) (fun _ _ => 0)
      case atStart => exact ⟨rfl, rfl⟩
      case round =>
        obtain ⟨rfl, rfl⟩ := hrel
        go_wp2
        exact bodyPost_ret (v := .tuple #[.int .i64 s.1, .bool true]) (by simp [results, Tryz.results29, go_sem]) rfl ⟨rfl, bTrans HB2.out (bTrans HBc.out (bAlloc _ _))⟩
end Go.Proofs.YtlgoaohklggcdaaGreatDoor

namespace Go.Proofs.YtlgoaohklggcdaaGreatDoor
open Go.RowKit Go.Sort

abbrev Wt := ByteArray × Int
def encWt (x : Wt) : List Value := [.string x.1, .int .i64 x.2]
theorem encWt_len (x : Wt) : (encWt x).length = 2 := rfl
theorem encWt_one (x : Wt) : ∀ u ∈ encWt x, u.oneCell' = true := by
  intro u hu
  simp [encWt] at hu
  rcases hu with rfl | rfl <;> rfl
abbrev OwnWt (B : Nat) (v : Value) (l : List Wt) (w : World) : Prop := Own encWt 2 68 B v l w
theorem weightInfo : (Tryz.prog.info? 68).map (fun i => (i.zero, i.size, i.bytes)) = some (some (.agg #[.string ⟨#[]⟩, .int .i64 0]), 2, 24) := by kernel_rfl
theorem newsWt (x : Wt) (w : World) : ∀ j u, (encWt x)[j]? = some u → (w.alloc (.cells #[.string x.1, .int .i64 x.2] 68)).cell? ⟨w.heap.size, j, none⟩ = some u := by
  intro j u hu
  have h := Bk.new w 68 #[.string x.1, .int .i64 x.2]
  rw [h.cell]
  simpa [encWt] using hu
/-- A number's digits, as the code sums them. -/
def costStep (n : Int) (b : UInt8) : Int := wrap64 (wrap64 (10 * n) + ((b.toNat : Int) - 48) % 256)
def costV (l : List UInt8) : Int := l.foldl costStep 0
def costP (l : List UInt8) : Wt := (⟨(cutB 58 l).1.toArray⟩, costV (cutB 58 l).2.1)
def costsL (l : List UInt8) : List Wt := (pieces 32 l).map costP
def costFa (s : ByteArray) : Fa := ⟨0, 1, 5, 0, 0, ⟨#[]⟩, 0, s⟩
theorem belowWt {B : Nat} {w0 w w' : World} {v : Value} {l : List Wt} (h : Below B w0 w) (hB : B ≤ w.heap.size) (ho : OwnWt B v l w) (hg : w.grownBy w' v.ownBlock) : Below B w0 w' :=
  h.trans ⟨hg.os, hg.tape, hg.output, hg.size, fun i hi => hg.block i (by omega) (ho.far hi)⟩
theorem costV_take {p : List UInt8} {m : Nat} {b : UInt8} (h : p[m]? = some b) : costV (p.take (m + 1)) = costStep (costV (p.take m)) b := by
  unfold costV
  rw [List.take_add_one, h, List.foldl_append]
  rfl
theorem fit_cost {s : ByteArray} (hs : s.size ≤ 1000000) : Fit (costFa s) := ⟨(by decide : (0 : Int) ≤ 0 ∧ (0 : Int) ≤ 4294967295), (by decide : (0 : Int) ≤ 1 ∧ (1 : Int) ≤ 4294967295), (by decide : (-9223372036854775808 : Int) ≤ 5 ∧ (5 : Int) ≤ 9223372036854775807), (by decide : (-9223372036854775808 : Int) ≤ 0 ∧ (0 : Int) ≤ 9223372036854775807), (by decide : (-9223372036854775808 : Int) ≤ 0 ∧ (0 : Int) ≤ 9223372036854775807), (by decide : (-9223372036854775808 : Int) ≤ 0 ∧ (0 : Int) ≤ 9223372036854775807), (by decide : (⟨#[]⟩ : ByteArray).size ≤ 1000000), hs⟩
set_option maxHeartbeats 8000000 in
set_option maxRecDepth 100000 in
theorem tm_Costs (s : ByteArray) (w : World) (hs : s.size ≤ 1000000) (hT : Tb w) : Calls Tryz.prog 24 #[.string s] w fun e w' =>
    (if chkF (costFa s) = 0 then ∃ A c, e = .returned (.tuple #[.slice A (costsL (ls s)).length c, .int .i64 0]) ∧ OwnWt w.heap.size (.slice A (costsL (ls s)).length c) (costsL (ls s)) w' else e = .returned (.tuple #[.slice none 0 0, .int .i64 3])) ∧ Below w.heap.size w w' := by
  obtain ⟨fb, hfb⟩ : ∃ x, w.heap.size = x := ⟨_, rfl⟩
  obtain ⟨w2, hw2⟩ : ∃ x, w.alloc (.cells (FA (costFa s)) 61) = x := ⟨_, rfl⟩
  have hk : Bk fb 61 (FA (costFa s)) w2 := by rw [← hw2, ← hfb]; exact Bk.new _ _ _
  have hb2 : Below w.heap.size w w2 := by rw [← hw2]; exact bAlloc _ _
  have HCH := Lib.hid (fc_Check (costFa s) w2 (fit_cost hs) (hT.below hb2))
  obtain ⟨ck, hck⟩ : ∃ z, chkF (costFa s) = z := ⟨_, rfl⟩
  rw [hck] at HCH ⊢
  clear hck
  unfold valF costFa at HCH
  have HE := Lib.hid (And.intro hfb hw2)
  unfold FA costFa at HE hk
  have HB2 := Lib.hid hb2
  have HTB : Hid (∀ W, Below w2.heap.size w2 W → Tb W) := Lib.hid fun W hW => hT.below (bTrans hb2 hW)
  have F0 : w2.cell? ⟨fb, 0, none⟩ = some (.int .u32 0) := hk.cell 0
  have F1 : w2.cell? ⟨fb, 1, none⟩ = some (.int .u32 1) := hk.cell 1
  have F2 : w2.cell? ⟨fb, 2, none⟩ = some (.int .i64 5) := hk.cell 2
  have F3 : w2.cell? ⟨fb, 3, none⟩ = some (.int .i64 0) := hk.cell 3
  have F4 : w2.cell? ⟨fb, 4, none⟩ = some (.int .i64 0) := hk.cell 4
  have F5 : w2.cell? ⟨fb, 5, none⟩ = some (.string ⟨#[]⟩) := hk.cell 5
  have F6 : w2.cell? ⟨fb, 6, none⟩ = some (.int .i64 0) := hk.cell 6
  have F7 : w2.cell? ⟨fb, 7, none⟩ = some (.string s) := hk.cell 7
  clear hfb hw2 hk hb2 hT
  go_enter Tryz.func24, Tryz.ntmps24
  go_upto_region 2 with fail
  rw [HE.out.1, HE.out.2]
  clear HE
  go_wp2_with fail
  refine HCH.out.mono ?_
  rintro e w3 ⟨rfl, hb3⟩
  have HB3 : Hid (Below w2.heap.size w2 w3) := Lib.hid hb3
  clear F0 F1 F2 F3 F4 F5 F6 F7 HCH hb3
  by_cases h0 : ck = 0
  · subst h0
    have HSP := Lib.hid (c_Split s 32 w3 hs (HTB.out w3 HB3.out))
    have hcv : ∀ (q : ByteArray) W, (convert 9 145 (.string q)).run Tryz.prog W = .ok (.slice (some ⟨W.heap.size, 0, none⟩) q.size (grownCap W q.size 0 5)) (Lib.bytesWorld W 5 q) := fun q W => Lib.run_convert_string_bytes W 9 145 5 q Tryz.underlying9 Tryz.underlying145 Tryz.underlying5
    go_wp2_with fail
    refine HSP.out.mono ?_
    rintro e w4 ⟨L, hL, rfl, hw4⟩
    obtain ⟨sb, hsb⟩ : ∃ x, w3.heap.size = x := ⟨_, rfl⟩
    have hb4 : Below w3.heap.size w3 w4 := by rw [hw4]; exact bAlloc w3 _
    have HB4 : Hid (Below w2.heap.size w2 w4) := Lib.hid (bTrans HB3.out hb4)
    have hmax : L.length ≤ 1000001 := by
      have h1 : L.length = (pieces 32 (ls s)).length := by rw [← hL, List.length_map]
      have := (pieces_le 32 (ls s)).1
      have := ls_len s
      omega
    have HSZ : Hid (∀ x ∈ L, x.size ≤ 1000000) := Lib.hid fun x hx => by
      have h1 := (pieces_le 32 (ls s)).2 (ls x) (by rw [← hL]; exact List.mem_map_of_mem hx)
      have h2 := ls_len s
      have h3 := ls_len x
      omega
    have HCE : Hid (∀ W, Below w4.heap.size w4 W → ∀ j x, L[j]? = some x → W.cell? ⟨sb, j, none⟩ = some (.string x)) := Lib.hid fun W hW j x hx => bCell hW (by rw [hw4, ← hsb]; exact new_cell w3 _ _ _ (by simp [hx]))
    have HV : Hid (costsL (ls s) = L.map fun x => costP (ls x)) := Lib.hid (by unfold costsL; rw [← hL, List.map_map]; rfl)
    rw [hsb]
    clear hL hw4 hb4 hsb HSP
    obtain ⟨M, hM⟩ : ∃ M, (L.map fun x => costP (ls x)) = M := ⟨_, rfl⟩
    have HMK : Hid (∀ k x, L[k]? = some x → M[k]? = some (costP (ls x))) := Lib.hid fun k x hx => by rw [← hM, List.getElem?_map, hx]; rfl
    have hMl : M.length = L.length := by rw [← hM, List.length_map]
    rw [hM] at HV
    clear hM
    go_wp2
    go_loopw [5, 22] (fun ov iv wr => ∃ k : Nat, k ≤ L.length ∧ iv = .int .i64 k ∧ Hid (OwnWt w4.heap.size ov (M.take k) wr) ∧ Hid (Below w4.heap.size w4 wr)) (fun _ iv _ => L.length - (intOf iv).toNat)
    case atStart => exact ⟨0, Nat.zero_le _, rfl, Lib.hid (Own.nil _), Lib.hid (Below.refl _ _)⟩
    case round =>
      obtain ⟨k, hk, rfl, HO, HB⟩ := hrel
      by_cases hlt : k < L.length
      · obtain ⟨x, hx⟩ : ∃ x, L[k]? = some x := ⟨_, List.getElem?_eq_getElem hlt⟩
        have C0 := HCE.out wr HB.out k x hx
        have hlt2 : (k : Int) < (L.length : Int) := by omega
        have hxs := HSZ.out x (List.mem_of_getElem? hx)
        obtain ⟨a, p, pt, hc⟩ : ∃ a p pt, cutB 58 (ls x) = (a, p, pt) := ⟨_, _, _, rfl⟩
        have hmx := HMK.out k x hx
        have HTK : Hid (M.take (k + 1) = M.take k ++ [(⟨a.toArray⟩, costV p)]) := Lib.hid (by rw [List.take_add_one, hmx]; unfold costP; rw [hc]; rfl)
        have hpl : p.length ≤ 1000000 := by
          have := cut_sizes hc
          have := ls_len x
          omega
        have HCC := Lib.hid (c_Cut x 58 a p pt hc wr hxs (HTB.out wr (bTrans HB4.out HB.out)))
        clear hx hmx hc
        go_wp2_with fail
        refine HCC.out.mono ?_
        rintro e w5 ⟨rfl, hg5⟩
        have HO5 := Lib.hid (own_bel HO.out hg5.below)
        have HB5 := Lib.hid (bTrans HB.out hg5.below)
        clear hg5 HCC HO HB C0
        obtain ⟨bb, hbb⟩ : ∃ z, w5.heap.size = z := ⟨_, rfl⟩
        obtain ⟨w6, hw6⟩ : ∃ z, Lib.bytesWorld w5 5 ⟨p.toArray⟩ = z := ⟨_, rfl⟩
        have hby : ∀ (j : Nat) b, p[j]? = some b → w6.cell? ⟨bb, j, none⟩ = some (.int .u8 (b.toNat : Int)) := fun j b hj => by
          have hlt := (List.getElem?_eq_some_iff.1 hj).1
          have := Lib.bytesWorld_cell w5 5 ⟨p.toArray⟩ j (by show j < p.toArray.size; simpa using hlt)
          rw [hw6, hbb] at this
          rw [this]
          simp [List.getD, hj]
        have hb6 : Below w5.heap.size w5 w6 := by rw [← hw6]; exact Lib.bytesWorld_below _ _ _
        have HB6 := Lib.hid (bTrans HB5.out hb6)
        have HO6 := Lib.hid (own_bel HO5.out hb6)
        have HBY := Lib.hid hby
        have HE6 := Lib.hid (And.intro hbb hw6)
        clear hbb hw6 hby hb6 HO5 HB5
        go_upto_region 11 with fail
        rw [HE6.out.1, HE6.out.2]
        clear HE6
        go_loopw [11, 35] (fun nv iv wr2 => ∃ (m : Nat) (n : Int), m ≤ p.length ∧ iv = .int .i64 m ∧ nv = .int .i64 n ∧ Hid (costV (p.take m) = n) ∧ w6 = wr2) (fun _ iv _ => p.length - (intOf iv).toNat)
        case atStart => exact ⟨0, 0, Nat.zero_le _, rfl, rfl, Lib.hid rfl, rfl⟩
        case round =>
          obtain ⟨m, n, hm, rfl, rfl, HN, hww⟩ := hrel
          subst hww
          by_cases hlm : m < p.length
          · obtain ⟨b, hb⟩ : ∃ b, p[m]? = some b := ⟨_, List.getElem?_eq_getElem hlm⟩
            have B0 := HBY.out m b hb
            have hlm2 : (m : Int) < (p.length : Int) := by omega
            have HS := Lib.hid (costV_take hb)
            rw [HN.out] at HS
            obtain ⟨c, hcc⟩ : ∃ c : Int, (b.toNat : Int) = c := ⟨_, rfl⟩
            have hcb : 0 ≤ c ∧ c ≤ 255 := by have := b.toNat_lt; omega
            unfold costStep at HS
            rw [hcc] at HS B0
            clear hb hcc
            go_wp2
            exact ⟨⟨m + 1, _, by omega, by go_num, rfl, HS, trivial⟩, by simp [intOf]; omega⟩
          · obtain rfl : m = p.length := by omega
            rw [List.take_length] at HN
            have HLE : (M.take k).length + 1 ≤ 1000000000 := by rw [List.length_take]; omega
            have HSZ6 : Hid (w4.heap.size ≤ w6.heap.size) := Lib.hid HB6.out.size
            rw [HN.out] at HTK
            clear hMl
            go_wp2_with ((at_builtin; refine wpList_append_row encWt_len encWt_one rfl _ _ 62 rfl w4.heap.size 68 _ 24 Tryz.underlying62 weightInfo rfl (by decide) _ (M.take k) (⟨a.toArray⟩, n) rfl (HO6.out.alloc _) w6.heap.size 1 rfl (newsWt (⟨a.toArray⟩, n) w6) HLE (by decide) (Nat.le_trans HSZ6.out (Grows.of_alloc _ _).size) ?_))
            intro v7 w7 hown7 hgr7
            have HB7 : Hid (Below w4.heap.size w4 w7) := Lib.hid (belowWt (bTrans HB6.out (bAlloc _ _)) (Nat.le_trans HSZ6.out (Grows.of_alloc _ _).size) (HO6.out.alloc _) hgr7)
            have HO7 : Hid (OwnWt w4.heap.size v7 (M.take (k + 1)) w7) := Lib.hid (by rw [HTK.out]; exact hown7)
            clear hown7 hgr7
            go_wp2
            exact ⟨⟨k + 1, by omega, by go_num, HO7, HB7⟩, by simp [intOf]; omega⟩
      · obtain rfl : k = L.length := by omega
        rw [← hMl, List.take_length] at HO
        obtain ⟨A6, c6, rfl, _, _⟩ := own_sl encWt_len HO.out
        clear hMl
        go_wp2
        refine bodyPost_ret (v := .tuple #[.slice A6 M.length c6, .int .i64 0]) (by simp [results, Tryz.results24, go_sem]) rfl ⟨?_, bTrans HB2.out (bTrans HB4.out HB.out)⟩
        rw [HV.out]
        exact ⟨A6, c6, rfl, own_down HO.out (Nat.le_trans HB2.out.size HB4.out.size)⟩
  · have b0 : (ck != 0) = true := bne_iff_ne.2 h0
    have HN : Hid (ck ≠ 0) := Lib.hid h0
    clear h0
    go_wp2
    exact bodyPost_ret (v := .tuple #[.slice none 0 0, .int .i64 3]) (by simp [results, Tryz.results24, go_sem]) rfl ⟨rfl, bTrans HB2.out HB3.out⟩
end Go.Proofs.YtlgoaohklggcdaaGreatDoor

/- Merged from: Abh Abi. -/
import Derived.Test.YtmngghglcgmkeaaGreatDoorAbx
import Derived.Test.YtmngghglcgmkeaaGreatDoorImps
namespace Go.Proofs.YtmngghglcgmkeaaGreatDoor
open Go.RowKit Go.Sort

theorem chosen_rise (p : Fa → Bool) (L : List Fa) (k : Nat) : (chosen p L k).Pairwise fun x y => x.1 < y.1 := by
  unfold chosen
  rw [List.pairwise_filterMap]
  refine List.pairwise_lt_range.imp fun {a b} h x hx y hy => ?_
  have key : ∀ (i : Nat) (z : Kn), (match L[i]? with
      | some f => if takenB L (((i : Nat) : Int) + 1) = true then none else if p f = true then some ((((i : Nat) : Int) + 1, f) : Kn) else none
      | none => none) = some z → z.1 = (i : Int) + 1 := fun i z hz => by
    cases hL : L[i]? with
    | none => rw [hL] at hz; cases hz
    | some f =>
      rw [hL] at hz
      simp only at hz
      split at hz
      · cases hz
      · split at hz
        · injection hz with hz
          rw [← hz]
        · cases hz
  have h1 := key a x hx
  have h2 := key b y hy
  omega
/-- The place of a fact that there is, or none. -/
def okJ (X : List Kn) (j : Int) : Prop := j = -1 ∨ ∃ i : Nat, j = i ∧ i < X.length
theorem plc_ok (X : List Kn) (d : Int) : okJ X (plc X d X.length) := by
  rcases plc_bd X d X.length with h | ⟨j, h1, h2, _⟩
  · exact .inl h
  · exact .inr ⟨j, h1, h2⟩
theorem strK_ok (X : List Kn) : ∀ (C : List Int) (s : SS), okJ X s.2.1 → (∀ p ∈ s.2.2, okJ X p.2.2) → okJ X (C.foldl (strS X) s).2.1 ∧ ∀ p ∈ (C.foldl (strS X) s).2.2, okJ X p.2.2
  | [], s, h1, h2 => ⟨h1, h2⟩
  | d :: C, s, h1, h2 => by
    rw [List.foldl_cons]
    unfold strS
    split
    · exact strK_ok X C s h1 h2
    · refine strK_ok X C _ (plc_ok X d) fun p hp => ?_
      rcases List.mem_append.1 hp with hp | hp
      · exact h2 p hp
      · rw [List.mem_singleton] at hp
        rw [hp]
        exact h1
theorem strL_ok (X : List Kn) (F U : Int) : ∀ p ∈ strL X F U, okJ X p.2.2 := fun p hp => by
  unfold strL strK at hp
  split at hp
  · exact absurd hp (List.not_mem_nil)
  · have h := strK_ok X (cutsL X F U) (F, plc X F X.length, []) (plc_ok X F) (fun _ h => absurd h (List.not_mem_nil))
    rcases List.mem_append.1 hp with hp | hp
    · exact h.2 p hp
    · rw [List.mem_singleton] at hp
      rw [hp]
      exact h.1
def coX (X : List Kn) (j : Int) : ByteArray := match X[j.toNat]? with
  | some x => x.2.co
  | none => ⟨#[]⟩
def abOf (X : List Kn) (p : Int × Int × Int) : Ab := ⟨p.1, p.2.1, (kiB (coX X p.2.2)).1, (valL X p.2.2).2.1, (valL X p.2.2).1⟩
/-- The stretches on which there is a fact. -/
def strQ (X : List Kn) (F U : Int) : List (Int × Int × Int) := (strL X F U).filter fun p => decide (0 ≤ p.2.2)
/-- A person's absences. -/
def absX (X : List Kn) (F U : Int) : List Ab := (strQ X F U).map (abOf X)
theorem ovr_filter (X : List Kn) : ∀ l : List (Int × Int × Int), ovrS X l = (l.filter fun p => decide (0 ≤ p.2.2)).map fun p => ((p.1, p.2.1, valL X p.2.2) : Pc)
  | [] => rfl
  | p :: l => by
    have ih := ovr_filter X l
    unfold ovrS at ih ⊢
    rw [List.filterMap_cons, List.filter_cons]
    by_cases h : 0 ≤ p.2.2
    · simp [h, ih]
    · simp [h, ih]
theorem over_q (X : List Kn) (F U : Int) : overX X F U = (strQ X F U).map fun p => ((p.1, p.2.1, valL X p.2.2) : Pc) := ovr_filter X _
theorem strQ_ok {X : List Kn} {F U : Int} {p : Int × Int × Int} (h : p ∈ strQ X F U) : ∃ (j : Nat) (x : Kn), p.2.2 = (j : Int) ∧ X[j]? = some x ∧ valL X p.2.2 = (x.1, x.2.nu, x.2.tx) ∧ abOf X p = ⟨p.1, p.2.1, (kiB x.2.co).1, x.2.nu, x.1⟩ := by
  unfold strQ at h
  rw [List.mem_filter] at h
  have h0 : 0 ≤ p.2.2 := of_decide_eq_true h.2
  rcases strL_ok X F U p h.1 with h1 | ⟨j, h1, h2⟩
  · omega
  · obtain ⟨x, hx⟩ : ∃ x, X[j]? = some x := ⟨_, List.getElem?_eq_getElem h2⟩
    have hj : p.2.2.toNat = j := by omega
    have hv : valL X p.2.2 = (x.1, x.2.nu, x.2.tx) := by
      unfold valL
      rw [if_neg (by omega), hj, hx]
    refine ⟨j, x, h1, hx, hv, ?_⟩
    unfold abOf coX
    rw [hv, hj, hx]
abbrev OwnAb (B : Nat) (v : Value) (l : List Ab) (w : World) : Prop := Own encAb 5 48 B v l w
theorem absInfo : (Tryz.prog.info? 48).map (fun i => (i.zero, i.size, i.bytes)) = some (some (.agg #[.int .i64 0, .int .i64 0, .int .i64 0, .int .i64 0, .int .i64 0]), 5, 40) := by kernel_rfl
theorem newsAb (x : Ab) (w : World) : ∀ j u, (encAb x)[j]? = some u → (w.alloc (.cells #[.int .i64 x.fr, .int .i64 x.to, .int .i64 x.ki, .int .i64 x.pa, .int .i64 x.nn] 48)).cell? ⟨w.heap.size, j, none⟩ = some u := by
  intro j u hu
  have h := Bk.new w 48 #[.int .i64 x.fr, .int .i64 x.to, .int .i64 x.ki, .int .i64 x.pa, .int .i64 x.nn]
  rw [h.cell]
  simpa [encAb] using hu
theorem belowAb {B : Nat} {w0 w w' : World} {v : Value} {l : List Ab} (h : Below B w0 w) (hB : B ≤ w.heap.size) (ho : OwnAb B v l w) (hg : w.grownBy w' v.ownBlock) : Below B w0 w' :=
  h.trans ⟨hg.os, hg.tape, hg.output, hg.size, fun i hi => hg.block i (by omega) (ho.far hi)⟩
theorem ownAb_lower {B B' : Nat} {w : World} {v : Value} {l : List Ab} (h : OwnAb B v l w) (hB : B' ≤ B) : OwnAb B' v l w := by
  rcases h with ⟨h1, h2⟩
  refine ⟨h1, ?_⟩
  rcases h2 with h0 | ⟨g, cap, cur, hv, hb, hr⟩
  · exact .inl h0
  · exact .inr ⟨g, cap, cur, hv, Nat.le_trans hB hb, hr⟩
def kA (L : List Fa) (pe : Int) : List Kn := chosen (ofPK pe 7) L L.length
/-- What absent.Of answers. -/
def AbR (X : List Kn) (F U : Int) (w : World) (e : Ending) (w' : World) : Prop := (if withB F U = true then ∃ A c, e = .returned (.tuple #[.slice A (absX X F U).length c, .int .i64 0]) ∧ OwnAb w.heap.size (.slice A (absX X F U).length c) (absX X F U) w' else e = .returned (.tuple #[.slice none 0 0, .int .i64 24])) ∧ Below w.heap.size w w'
theorem AbR.yes {X : List Kn} {F U : Int} {w w' : World} {e : Ending} {A : Option Addr} {c B : Nat} (hw : withB F U = true) (he : e = .returned (.tuple #[.slice A (absX X F U).length c, .int .i64 0])) (ho : OwnAb B (.slice A (absX X F U).length c) (absX X F U) w') (hB : w.heap.size ≤ B) (hb : Below w.heap.size w w') : AbR X F U w e w' := ⟨by
  rw [if_pos hw]
  refine ⟨A, c, he, ?_⟩
  rcases ho with ⟨h1, h2⟩
  refine ⟨h1, ?_⟩
  rcases h2 with h0 | ⟨g, cap, cur, hv, hg, hr⟩
  · exact .inl h0
  · exact .inr ⟨g, cap, cur, hv, Nat.le_trans hB hg, hr⟩, hb⟩
theorem AbR.no {X : List Kn} {F U : Int} {w w' : World} {e : Ending} (hw : withB F U = false) (he : e = .returned (.tuple #[.slice none 0 0, .int .i64 24])) (hb : Below w.heap.size w w') : AbR X F U w e w' := ⟨by rw [hw, if_neg (by simp)]; exact he, hb⟩
set_option maxHeartbeats 4000000 in
set_option maxRecDepth 100000 in
theorem ab_Of (L : List Fa) (AV : Option Addr) (cV : Nat) (pe F U : Int) (w : World) (hn : L.length ≤ 4096) (hs : SlF w AV L) (hF : -9223372036854775808 ≤ F ∧ F ≤ 9223372036854775807) (hU : -9223372036854775808 ≤ U ∧ U ≤ 9223372036854775807) :
    Calls Tryz.prog 11 #[.agg #[.slice AV L.length cV], .int .u32 pe, .agg #[.int .i64 F, .int .i64 U]] w (AbR (kA L pe) F U w) := by
  obtain ⟨vb, hvb⟩ : ∃ x, w.heap.size = x := ⟨_, rfl⟩
  obtain ⟨sb, hsb⟩ : ∃ x, vb + 1 = x := ⟨_, rfl⟩
  obtain ⟨w2, hw2⟩ : ∃ x, (w.alloc (.cells #[.slice AV L.length cV] 43)).alloc (.cells #[.int .i64 F, .int .i64 U] 28) = x := ⟨_, rfl⟩
  obtain ⟨k1, k2, hb2⟩ := bkk2 w _ _ _ _ hvb hsb hw2
  have HB2 := Lib.hid hb2
  obtain ⟨X, hX⟩ : ∃ X, kA L pe = X := ⟨_, rfl⟩
  have hXl : X.length ≤ 4096 := by rw [← hX]; exact Nat.le_trans (chosen_len _ _ _) hn
  have HRI : Hid (X.Pairwise fun x y => x.1 < y.1) := Lib.hid (by rw [← hX]; exact chosen_rise _ _ _)
  have HWI := Lib.hid (ab_within F U w2 hF hU)
  have HFA : Hid (∀ W, Below w2.heap.size w2 W → Calls Tryz.prog 20 #[.agg #[.slice AV L.length cV], .int .u32 pe, .int .i64 7] W fun e w' => ∃ A c, e = .returned (.slice A X.length c) ∧ Below W.heap.size W w' ∧ Sl encK 9 w' w'.heap.size A X) := Lib.hid fun W hW => (vi_Facts L AV cV pe 7 W hn (hs.below (bTrans hb2 hW))).mono fun e w' ⟨⟨v, h1, h2⟩, h3⟩ => by
    have hX' : chosen (ofPK pe 7) L L.length = X := hX
    rw [hX'] at h2
    obtain ⟨A, c, rfl, _, h4⟩ := own_sl encK_len h2
    exact ⟨A, c, h1, h3, h4⟩
  have HSPC : Hid (∀ W, Below w2.heap.size w2 W → W.cell? ⟨vb, 0, none⟩ = some (.slice AV L.length cV) ∧ W.cell? ⟨sb, 0, none⟩ = some (.int .i64 F) ∧ W.cell? ⟨sb, 1, none⟩ = some (.int .i64 U)) := Lib.hid fun W hW => ⟨bCell hW (k1.cell 0), bCell hW (k2.cell 0), bCell hW (k2.cell 1)⟩
  obtain ⟨P, hP⟩ : ∃ P, overX X F U = P := ⟨_, rfl⟩
  have HOV : Hid (∀ W A c, SlK1 W A X → Calls Tryz.prog 32 #[.agg #[.slice A X.length c], .agg #[.int .i64 F, .int .i64 U]] W fun e w' => ∃ A' c', e = .returned (.slice A' P.length c') ∧ Below W.heap.size W w' ∧ Sl encPc 5 w' w'.heap.size A' P) := Lib.hid fun W A c h => by
    have := li_Over X F U A c W hXl h
    rwa [hP] at this
  have hPl : P.length ≤ 20000 := by
    rw [← hP]
    have h1 := ovrS_len X (strL X F U)
    have h2 := strL_len (X := X) F U hXl
    unfold overX
    omega
  obtain ⟨Q, hQ⟩ : ∃ Q, strQ X F U = Q := ⟨_, rfl⟩
  have HPQ : Hid (P = Q.map fun p => ((p.1, p.2.1, valL X p.2.2) : Pc)) := Lib.hid (by rw [← hP, ← hQ]; exact over_q X F U)
  have HQ0 : Hid (absX X F U = Q.map (abOf X)) := Lib.hid (by rw [← hQ]; rfl)
  have HQO : Hid (∀ p ∈ Q, ∃ (j : Nat) (x : Kn), p.2.2 = (j : Int) ∧ X[j]? = some x ∧ valL X p.2.2 = (x.1, x.2.nu, x.2.tx) ∧ abOf X p = ⟨p.1, p.2.1, (kiB x.2.co).1, x.2.nu, x.1⟩) := Lib.hid fun p hp => strQ_ok (by rw [hQ]; exact hp)
  have HPQL : Hid (P.length = Q.length) := Lib.hid (by rw [HPQ.out, List.length_map])
  have HWV : Hid (withB F U = true → ∀ (e : Ending) (w' : World) A c, e = .returned (.tuple #[.slice A Q.length c, .int .i64 0]) → OwnAb w2.heap.size (.slice A Q.length c) (Q.map (abOf X)) w' → Below w.heap.size w w' → AbR X F U w e w') := Lib.hid fun hw e w' A c he ho hb => by
    have hl : (absX X F U).length = Q.length := by rw [HQ0.out, List.length_map]
    exact AbR.yes (A := A) (c := c) (B := w2.heap.size) hw (by rw [hl]; exact he) (by rw [hl, HQ0.out]; exact ho) hb2.size hb
  have HWN : Hid (withB F U = false → ∀ (e : Ending) (w' : World), e = .returned (.tuple #[.slice none 0 0, .int .i64 24]) → Below w.heap.size w w' → AbR X F U w e w') := Lib.hid fun hw e w' he hb => AbR.no hw he hb
  rw [hX]
  obtain ⟨wb, hwb⟩ : ∃ wb, withB F U = wb := ⟨_, rfl⟩
  rw [hwb] at HWI HWV HWN
  have HE := Lib.hid (And.intro hvb (And.intro hsb hw2))
  clear hs hb2 hw2 hvb hsb k1 k2 hX hP hQ hwb hn hF hU HQ0
  obtain ⟨V0, S0, S1⟩ := HSPC.out _ (Below.refl _ _)
  go_enter Tryz.func11, Tryz.ntmps11
  go_upto_region 1 with fail
  rw [HE.out.1, HE.out.2.1, HE.out.2.2]
  clear HE
  go_wp2_with fail
  refine HWI.out.mono ?_
  rintro e w3 ⟨rfl, hb3⟩
  have HB3 := Lib.hid hb3
  clear hb3 HWI V0 S0 S1
  cases wb with
  | false =>
    have HF := Lib.hid (HWN.out rfl)
    have HBF := Lib.hid (bTrans HB2.out HB3.out)
    go_wp2
    go_ret2
    exact HF.out _ _ rfl HBF.out
  | true =>
    have HF := Lib.hid (HWV.out rfl)
    clear HWV HWN
    obtain ⟨V0, S0, S1⟩ := HSPC.out _ HB3.out
    have HFA3 := Lib.hid (HFA.out _ HB3.out)
    go_wp2_with fail
    refine HFA3.out.mono ?_
    rintro e w4 ⟨AK, cK, rfl, hb4, hs4⟩
    have HB4 : Hid (Below w2.heap.size w2 w4) := Lib.hid (bTrans HB3.out hb4)
    have HSK : Hid (∀ W, Below w4.heap.size w4 W → SlK1 W AK X) := Lib.hid fun W hW => sl_bel hs4 hW
    have HSP : Hid (∀ W, Below w4.heap.size w4 W → W.cell? ⟨sb, 0, none⟩ = some (.int .i64 F) ∧ W.cell? ⟨sb, 1, none⟩ = some (.int .i64 U)) := Lib.hid fun W hW => (HSPC.out W (bTrans HB4.out hW)).2
    clear hb4 hs4 HFA3 HFA V0 S0 S1
    go_upto_region 5 with fail
    go_cut [24, 25, 26] from 21 to 26 (fun pv lv iv wx => (∃ A24 c24, pv = .slice A24 P.length c24 ∧ Hid (Sl encPc 5 wx wx.heap.size A24 P)) ∧ lv = .int .i64 P.length ∧ iv = .int .i64 0 ∧ Hid (Below w4.heap.size w4 wx))
    case first =>
      refine wp_region_use (SPS [(8, Sp.val (.slice AK X.length cK)), (5, Sp.val (.pointer (some ⟨sb, 0, none⟩))), (21, Sp.val (.slice AK X.length cK)), (22, (spLine X)), (23, Sp.val (.agg #[.int .i64 F, .int .i64 U])), (24, (spSl encPc 5 P)), (25, Sp.val (.int .i64 P.length)), (26, Sp.val (.int .i64 0))]) [] [21, 22, 23, 24, 25, 26] rfl (by rfl) (by kernel_rfl) (SPS.st _) (by rfl) ?_ (opsK_all ?_) ?_
      · exact sps_start (cons_all rfl (cons_all rfl (nil_all)))
      · refine opsK_cons (by
         exact use_s [] (opOk_move rfl rfl (.inl rfl) (by kernel_rfl) (fun _ _ h => sps rfl (h.get rfl))) (by kernel_rfl) (by rfl)) ?_
        refine opsK_cons (by
         exact use_s [] (opOk_callg (fun a => #[a.eval (.tmp 21)]) rfl rfl (.inl rfl) (fun a => by simp only [List.map_toArray, List.map_cons, List.map_nil] <;> rfl) (fun args W => by go_simp) (fun a W hW hsp => by
            have e21 : a.eval (.tmp 21) = .slice AK X.length cK := (hsp 21 (by kernel_rfl)).get rfl
            simp only [e21]
            exact (li_Of X AK cK _ (by omega) (HSK.out _ hW)).mono fun e w' ⟨⟨A, c, he, ho⟩, hb⟩ => ⟨_, he, hb, sps rfl (spLine_of ho)⟩)) (by kernel_rfl) (by rfl)) ?_
        refine opsK_cons (by
         exact use_s [] (opOk_load (p := ⟨sb, 0, none⟩) rfl rfl (.inl rfl) (by kernel_rfl) (fun _ _ h => h.get rfl) (fun W hW => by
            obtain ⟨k0, k1⟩ := HSP.out _ hW
            exact ⟨.agg #[.int .i64 F, .int .i64 U], by go_simp, sps rfl rfl⟩)) (by kernel_rfl) (by rfl)) ?_
        refine opsK_cons (by
         exact use_s [] (opOk_callg (fun a => #[a.eval (.tmp 22), a.eval (.tmp 23)]) rfl rfl (.inl rfl) (fun a => by simp only [List.map_toArray, List.map_cons, List.map_nil] <;> rfl) (fun args W => by go_simp) (fun a W hW hsp => by
            obtain ⟨A22, c22, hv, hs22⟩ := (hsp 22 (by kernel_rfl)).get rfl
            have e22 : a.eval (.tmp 22) = .agg #[.slice A22 X.length c22] := hv
            have e23 : a.eval (.tmp 23) = .agg #[.int .i64 F, .int .i64 U] := (hsp 23 (by kernel_rfl)).get rfl
            simp only [e22, e23]
            exact (HOV.out _ A22 c22 hs22).mono fun e w' ⟨A, c, he, hb, hs⟩ => ⟨_, he, hb, sps rfl ⟨A, c, rfl, hs⟩⟩)) (by kernel_rfl) (by rfl)) ?_
        refine opsK_cons (by
         exact use_s [] (opOk_run rfl (.inl rfl) (fun a W hW hsp => by
            obtain ⟨A24, c24, hv, hs24⟩ := (hsp 24 (by kernel_rfl)).get rfl
            have e24 : a.eval (.tmp 24) = .slice A24 P.length c24 := hv
            refine ⟨.int .i64 P.length, ?_, sps rfl rfl⟩
            unfold execOp
            go_simp)) (by kernel_rfl) (by rfl)) ?_
        refine opsK_cons (by
         exact use_s [] (opOk_run rfl (.inl rfl) (fun a W hW hsp => by
            refine ⟨.int .i64 0, ?_, sps rfl rfl⟩
            unfold execOp
            go_simp)) (by kernel_rfl) (by rfl)) ?_
        exact opsK_nil
      · intro vs W3 hb hsp
        obtain ⟨A24, c24, z24, hs24⟩ := (hsp 24 (by simp)).get rfl
        have z25 := (hsp 25 (by simp)).get rfl
        have z26 := (hsp 26 (by simp)).get rfl
        simp only [putAll]
        go_simp
        go_step
        go_meet
        exact ⟨⟨A24, c24, by first | rfl | exact z24, Lib.hid hs24⟩, by first | rfl | exact z25, by first | rfl | exact z26, Lib.hid hb⟩
    case rest =>
    obtain ⟨⟨AP, cP, rfl, HSPP⟩, rfl, rfl, HB5⟩ := hcut
    obtain ⟨w5, rfl⟩ : ∃ x : World, x = wc := ⟨_, rfl⟩
    have HBX : Hid (Below w2.heap.size w2 w5) := Lib.hid (bTrans HB4.out HB5.out)
    have HSK5 := Lib.hid (HSK.out _ HB5.out)
    clear HOV HSP HB4 HB3
    go_wp2
    go_loopw [9, 26] (fun ov iv wr => ∃ i : Nat, i ≤ P.length ∧ iv = .int .i64 i ∧ (∃ A c, ov = .slice A ((Q.map (abOf X)).take i).length c ∧ Hid (OwnAb w5.heap.size (.slice A ((Q.map (abOf X)).take i).length c) ((Q.map (abOf X)).take i) wr)) ∧ Hid (Below w5.heap.size w5 wr)) (fun _ iv _ => P.length - (intOf iv).toNat)
    case atStart => exact ⟨0, Nat.zero_le _, rfl, ⟨none, 0, rfl, Lib.hid (Own.nil _)⟩, Lib.hid (Below.refl _ _)⟩
    case round =>
      obtain ⟨i, hi, rfl, ⟨Ao, co, rfl, HO⟩, HB⟩ := hrel
      by_cases hlt : i < P.length
      · obtain ⟨p, hp⟩ : ∃ p, Q[i]? = some p := ⟨_, List.getElem?_eq_getElem (by have := HPQL.out; omega)⟩
        obtain ⟨j, x, hj, hxj, hval, hab⟩ := HQO.out p (List.mem_of_getElem? hp)
        have hpp : P[i]? = some ((p.1, p.2.1, x.1, x.2.nu, x.2.tx) : Pc) := by rw [HPQ.out, List.getElem?_map, hp, Option.map_some, hval]
        obtain ⟨g, o, rfl, _, hat⟩ := HSPP.out (by intro h; simp [h] at hpp)
        have C0 : wr.cell? ⟨g, o + i * 5, none⟩ = some (.int .i64 p.1) := bCell HB.out (hat i _ hpp 0 _ rfl)
        have C1 : wr.cell? ⟨g, o + i * 5 + 1, none⟩ = some (.int .i64 p.2.1) := bCell HB.out (hat i _ hpp 1 _ rfl)
        have C2 : wr.cell? ⟨g, o + i * 5 + 2, none⟩ = some (.int .i64 x.1) := bCell HB.out (hat i _ hpp 2 _ rfl)
        have C3 : wr.cell? ⟨g, o + i * 5 + 3, none⟩ = some (.int .i64 x.2.nu) := bCell HB.out (hat i _ hpp 3 _ rfl)
        have C4 : wr.cell? ⟨g, o + i * 5 + 4, none⟩ = some (.string x.2.tx) := bCell HB.out (hat i _ hpp 4 _ rfl)
        have HST : Hid ((Q.map (abOf X)).take (i + 1) = (Q.map (abOf X)).take i ++ [⟨p.1, p.2.1, (kiB x.2.co).1, x.2.nu, x.1⟩]) := Lib.hid (by
          rw [List.take_add_one, List.getElem?_map, hp, Option.map_some, hab]
          rfl)
        have HTL : Hid (((Q.map (abOf X)).take i).length = i) := Lib.hid (by rw [List.length_take, List.length_map]; have := HPQL.out; omega)
        have hSb : ((Q.map (abOf X)).take i).length ≤ 20000 := by rw [HTL.out]; omega
        obtain ⟨S, hS⟩ : ∃ S, (Q.map (abOf X)).take i = S := ⟨_, rfl⟩
        rw [hS] at HST HO HTL hSb ⊢
        obtain ⟨p1, p2, pj⟩ := p
        simp only at C0 C1 HST hj
        obtain ⟨xb, hxb⟩ : ∃ z, wr.heap.size = z := ⟨_, rfl⟩
        obtain ⟨wx, hwx⟩ : ∃ z, wr.alloc (.cells #[.int .i64 p1, .int .i64 p2, .int .i64 x.1, .int .i64 x.2.nu, .string x.2.tx] 90) = z := ⟨_, rfl⟩
        have hbx : Below wr.heap.size wr wx := by rw [← hwx]; exact bAlloc _ _
        have hkx : Bk xb 90 #[.int .i64 p1, .int .i64 p2, .int .i64 x.1, .int .i64 x.2.nu, .string x.2.tx] wx := by rw [← hwx, ← hxb]; exact Bk.new _ _ _
        have HOX : Hid (OwnAb w5.heap.size (.slice Ao S.length co) S wx) := Lib.hid (own_bel HO.out hbx)
        have HBX2 : Hid (Below w5.heap.size w5 wx) := Lib.hid (bTrans HB.out hbx)
        have HXC : Hid (∀ W, Below wx.heap.size wx W → W.cell? ⟨xb, 0, none⟩ = some (.int .i64 p1) ∧ W.cell? ⟨xb, 1, none⟩ = some (.int .i64 p2) ∧ W.cell? ⟨xb, 2, none⟩ = some (.int .i64 x.1) ∧ W.cell? ⟨xb, 3, none⟩ = some (.int .i64 x.2.nu)) := Lib.hid fun W hW => ⟨bCell hW (hkx.cell 0), bCell hW (hkx.cell 1), bCell hW (hkx.cell 2), bCell hW (hkx.cell 3)⟩
        have HIX := Lib.hid (ab_Index X AK cK xb j x.1 x wx (by omega) (sl_bel HSK5.out HBX2.out) (hkx.cell 2) hxj rfl (fun i' y hi' hy => by
          have hjl := List.getElem?_eq_some_iff.1 hxj
          have hil := List.getElem?_eq_some_iff.1 hy
          have h1 := hjl.1
          have := List.pairwise_iff_getElem.1 HRI.out i' j hil.1 hjl.1 hi'
          rw [hil.2, hjl.2] at this
          omega))
        obtain ⟨gk, ok, rfl, _, hatk⟩ := HSK5.out (by intro h; simp [h] at hxj)
        have HKC : Hid (∀ W, Below wx.heap.size wx W → W.cell? ⟨gk, ok + j * 9 + 6, none⟩ = some (.string x.2.co)) := Lib.hid fun W hW => bCell (bTrans HBX2.out hW) (hatk j x hxj 6 _ rfl)
        have hjl : (j : Int) < (X.length : Int) := by have := (List.getElem?_eq_some_iff.1 hxj).1; omega
        have HKI := Lib.hid (fun W => ab_Kind x.2.co W)
        obtain ⟨kk, hkk⟩ : ∃ kk, kiB x.2.co = kk := ⟨_, rfl⟩
        rw [hkk] at HKI HST
        have HE := Lib.hid (And.intro hxb hwx)
        have hlt2 : (i : Int) < (P.length : Int) := by omega
        clear hp hpp hat hxb hwx hbx hkx HB HO hS hj hxj hval hab hatk hkk
        go_upto_region 8 with fail
        rw [HE.out.1, HE.out.2]
        clear HE C0 C1 C2 C3 C4
        go_wp2_with fail
        refine HIX.out.mono ?_
        rintro e w6 ⟨rfl, hb6⟩
        have HB6 : Hid (Below wx.heap.size wx w6) := Lib.hid hb6
        have K6 := HKC.out _ hb6
        have HKI6 := Lib.hid (HKI.out w6)
        clear hb6 HIX HKI
        go_wp2_with fail
        refine HKI6.out.mono ?_
        rintro e wz ⟨rfl, hwz⟩
        subst hwz
        clear K6 HKC HKI6
        obtain ⟨X0, X1, X2, X3⟩ := HXC.out _ HB6.out
        obtain ⟨k1, kb⟩ := kk
        simp only at HST ⊢
        have HO6 : Hid (OwnAb w5.heap.size (.slice Ao S.length co) S w6) := Lib.hid (own_bel HOX.out HB6.out)
        have HB62 : Hid (Below w2.heap.size w2 w6) := Lib.hid (bTrans HBX.out (bTrans HBX2.out HB6.out))
        have HB65 : Hid (Below w5.heap.size w5 w6) := Lib.hid (bTrans HBX2.out HB6.out)
        have HZ6 : Hid (w5.heap.size ≤ w6.heap.size) := Lib.hid HB65.out.size
        have HSL : Hid ((S ++ [(⟨p1, p2, k1, x.2.nu, x.1⟩ : Ab)]).length = S.length + 1) := Lib.hid (by simp)
        have HNW : Hid (∀ jj u, (encAb ⟨p1, p2, k1, x.2.nu, x.1⟩)[jj]? = some u → (w6.alloc (.cells #[.int .i64 p1, .int .i64 p2, .int .i64 k1, .int .i64 x.2.nu, .int .i64 x.1] 48)).cell? ⟨w6.heap.size, jj, none⟩ = some u) := Lib.hid (newsAb ⟨p1, p2, k1, x.2.nu, x.1⟩ w6)
        go_upto_region 10 with fail
        go_wp2_with ((at_builtin; refine wpList_append_row encAb_len encAb_one rfl _ _ 40 rfl w5.heap.size 48 _ 40 Tryz.underlying40 absInfo rfl (by decide) _ S ⟨p1, p2, k1, x.2.nu, x.1⟩ rfl (HO6.out.alloc _) w6.heap.size 1 rfl HNW.out (by omega) (by decide) (Nat.le_trans HZ6.out (Grows.of_alloc w6 _).size) ?_))
        intro v9 w9 hown9 hgr9
        have HB95 : Hid (Below w5.heap.size w5 w9) := Lib.hid (belowAb (HB65.out.trans ((bAlloc w6 _).mono HB65.out.size)) (Nat.le_trans HB65.out.size (Grows.of_alloc w6 _).size) (HO6.out.alloc _) hgr9)
        obtain ⟨A9, c9, rfl, _, _⟩ := own_sl encAb_len hown9
        rw [HSL.out] at hown9 ⊢
        have HO9 := Lib.hid hown9
        clear hown9 hgr9 X0 X1 X2 X3
        go_wp2
        exact ⟨⟨i + 1, by omega, by go_num, by rw [HST.out, HSL.out]; exact ⟨A9, c9, rfl, HO9⟩, HB95⟩, by simp [intOf]; omega⟩
      · obtain rfl : i = P.length := by omega
        have HTA : Hid ((Q.map (abOf X)).take P.length = Q.map (abOf X)) := Lib.hid (List.take_of_length_le (by rw [List.length_map, HPQL.out]; exact Nat.le_refl _))
        rw [HTA.out] at HO ⊢
        rw [List.length_map] at HO ⊢
        have HBF := Lib.hid (bTrans HB2.out (bTrans HBX.out HB.out))
        clear hlt
        go_wp2
        go_ret2
        exact HF.out _ _ _ _ rfl (ownAb_lower HO.out HBX.out.size) HBF.out
end Go.Proofs.YtmngghglcgmkeaaGreatDoor

namespace Go.Proofs.YtmngghglcgmkeaaGreatDoor
open Go.RowKit Go.Sort

def exS : Fa := ⟨0, 1, 7, 19786, 19791, ⟨#[115, 105, 99, 107]⟩, 0, ⟨#[]⟩⟩
def exV : Fa := ⟨0, 1, 7, 19788, 19789, ⟨#[108, 101, 97, 118, 101]⟩, 0, ⟨#[]⟩⟩
theorem fitS : Fit exS := ⟨by decide, by decide, by decide, by decide, by decide, by decide, by decide, by decide⟩
theorem fitV : Fit exV := ⟨by decide, by decide, by decide, by decide, by decide, by decide, by decide, by decide⟩
theorem exImp18 : impL [] [] 0 [exS, exV] = ([exS, exV], 0, 0) := by
  have hA : addL [] exS = ([exS], 0) := by
    unfold addL
    rw [if_neg (by decide), show chkF exS = 0 by decide, if_neg (by decide), show placeI [] exS.id = -1 by decide, if_neg (by decide), show canE [] exS = 0 by decide, if_neg (by decide)]
    rfl
  have hB : addL [exS] exV = ([exS, exV], 0) := by
    unfold addL
    rw [if_neg (by decide), show chkF exV = 0 by decide, if_neg (by decide), show placeI [exS] exV.id = -1 by decide, if_neg (by decide), show canE [exS] exV = 0 by decide, if_neg (by decide)]
    rfl
  rw [impL_add [] [] 0 exS [exV] (by decide) hA, if_neg (by decide), impL_add [] [exS] 0 exV [] (by decide) hB, if_neg (by decide)]
  unfold impL
  rfl
theorem exKA : kA [exS, exV] 1 = [(1, exS), (2, exV)] := by
  show chosen (ofPK 1 7) [exS, exV] 2 = _
  rw [chosen_succ (L := [exS, exV]) (k := 1) (f := exV) _ rfl, chosen_succ (L := [exS, exV]) (k := 0) (f := exS) _ rfl, chosen_zero]
  rw [if_neg (by decide), if_pos (by decide), if_neg (by decide), if_pos (by decide)]
  rfl
theorem kiS : kiB exS.co = (0, true) := by
  unfold kiB
  rw [beq_ls]
  exact if_pos (by decide)
theorem kiV : kiB exV.co = (1, true) := by
  unfold kiB
  rw [beq_ls, beq_ls]
  rw [if_neg (by decide), if_pos (by decide)]
theorem exStr : strL [(1, exS), (2, exV)] 19783 19814 = [(19783, 19786, -1), (19786, 19788, 0), (19788, 19789, 1), (19789, 19791, 0), (19791, 19814, -1)] := by decide
def exAb : List Ab := [⟨19786, 19788, 0, 0, 1⟩, ⟨19788, 19789, 1, 0, 2⟩, ⟨19789, 19791, 0, 0, 1⟩]
theorem exAbs : absX [(1, exS), (2, exV)] 19783 19814 = exAb := by
  unfold absX strQ
  rw [exStr]
  have h0 : abOf [(1, exS), (2, exV)] (19786, 19788, 0) = ⟨19786, 19788, 0, 0, 1⟩ := by
    unfold abOf
    rw [show coX [(1, exS), (2, exV)] 0 = exS.co from rfl, kiS]
    rfl
  have h1 : abOf [(1, exS), (2, exV)] (19788, 19789, 1) = ⟨19788, 19789, 1, 0, 2⟩ := by
    unfold abOf
    rw [show coX [(1, exS), (2, exV)] 1 = exV.co from rfl, kiV]
    rfl
  have h2 : abOf [(1, exS), (2, exV)] (19789, 19791, 0) = ⟨19789, 19791, 0, 0, 1⟩ := by
    unfold abOf
    rw [show coX [(1, exS), (2, exV)] 0 = exS.co from rfl, kiS]
    rfl
  have hf : ([(19783, 19786, -1), (19786, 19788, 0), (19788, 19789, 1), (19789, 19791, 0), (19791, 19814, -1)] : List (Int × Int × Int)).filter (fun p => decide (0 ≤ p.2.2)) = [(19786, 19788, 0), (19788, 19789, 1), (19789, 19791, 0)] := by decide
  rw [hf]
  unfold exAb
  rw [List.map_cons, List.map_cons, List.map_cons, List.map_nil, h0, h1, h2]
def exH (i : Nat) : Int := if i < 5 then 480 else 0
theorem exMin : SU (fun d => if awayB exAb 0 d = true then gMin exH [] d else 0) 19783 19814 = 1920 := by kernel_rfl
theorem exDay : SU (fun d => if awayB exAb 0 d = true then gDay exH [] d else 0) 19783 19814 = 4 := by kernel_rfl
/-- A slice of two facts, made anew. -/
theorem two_fa (f g : Fa) (w : World) : SlF (w.alloc (.cells #[.int .u32 f.id, .int .u32 f.pe, .int .i64 f.ki, .int .i64 f.fr, .int .i64 f.to, .string f.co, .int .i64 f.nu, .string f.tx, .int .u32 g.id, .int .u32 g.pe, .int .i64 g.ki, .int .i64 g.fr, .int .i64 g.to, .string g.co, .int .i64 g.nu, .string g.tx] 26)) (some ⟨w.heap.size, 0, none⟩) [f, g] := by
  intro _
  refine ⟨w.heap.size, 0, rfl, size_new _ _, fun i x hx j u hu => ?_⟩
  rw [(Bk.new w 26 _).cell, Nat.zero_add]
  have hj : j < 8 := by have := (List.getElem?_eq_some_iff.1 hu).1; rwa [encF_len] at this
  have hi : i < 2 := by have := (List.getElem?_eq_some_iff.1 hx).1; simpa using this
  have hi2 : i = 0 ∨ i = 1 := by omega
  have hj2 : j = 0 ∨ j = 1 ∨ j = 2 ∨ j = 3 ∨ j = 4 ∨ j = 5 ∨ j = 6 ∨ j = 7 := by omega
  rcases hi2 with rfl | rfl
  · cases hx
    rcases hj2 with rfl | rfl | rfl | rfl | rfl | rfl | rfl | rfl <;> exact hu
  · cases hx
    rcases hj2 with rfl | rfl | rfl | rfl | rfl | rfl | rfl | rfl <;> exact hu
set_option maxHeartbeats 4000000 in
set_option maxRecDepth 100000 in
theorem la_awake18 (w : World) (hT : Tb w) (hC : Tab w) : Calls Tryz.prog 8 #[] w fun e w' => e = .returned (.bool true) ∧ Below w.heap.size w w' := by
  obtain ⟨b1, hb1⟩ : ∃ x, w.heap.size = x := ⟨_, rfl⟩
  obtain ⟨w1, hw1⟩ : ∃ x, w.alloc (.cells #[.int .u32 0, .int .u32 1, .int .i64 7, .int .i64 19786, .int .i64 19791, .string ⟨#[115, 105, 99, 107]⟩, .int .i64 0, .string ⟨#[]⟩, .int .u32 0, .int .u32 1, .int .i64 7, .int .i64 19788, .int .i64 19789, .string ⟨#[108, 101, 97, 118, 101]⟩, .int .i64 0, .string ⟨#[]⟩] 26) = x := ⟨_, rfl⟩
  have hb01 : Below w.heap.size w w1 := by rw [← hw1]; exact bAlloc _ _
  have HB1 := Lib.hid hb01
  have HI : Hid (Calls Tryz.prog 23 #[.agg #[.slice none 0 0], .slice (some ⟨b1, 0, none⟩) 2 2] w1 fun e w' => (∃ A cap, e = .returned (.tuple #[.agg #[.slice A 2 cap], .int .i64 0, .int .i64 0]) ∧ 2 ≤ cap ∧ SlF w' A [exS, exV]) ∧ Below w1.heap.size w1 w') := Lib.hid (by
    have h := st_Import [] none 0 [exS, exV] (some ⟨b1, 0, none⟩) 2 w1 (by decide) (by decide) (fun h => absurd rfl h) (by decide) (by rw [← hw1, ← hb1]; exact two_fa exS exV w) (fun f hf => by
      rcases List.mem_cons.1 hf with rfl | hf
      · exact fitS
      · rcases List.mem_cons.1 hf with rfl | hf
        · exact fitV
        · cases hf) (hT.below hb01)
    unfold impR at h
    rw [exImp18] at h
    exact h)
  have HC1 : Hid (Tab w1) := Lib.hid (tabW hC hb01)
  have HE := Lib.hid (And.intro hb1 hw1)
  clear hb1 hw1 hb01 hT hC
  go_enter Tryz.func8, Tryz.ntmps8
  go_wp2_with fail
  rw [HE.out.1, HE.out.2]
  clear HE
  refine HI.out.mono ?_
  rintro e w2 ⟨⟨A, cap, rfl, hcap, hs2⟩, hb2⟩
  obtain ⟨sb, hsb⟩ : ∃ x, w2.heap.size = x := ⟨_, rfl⟩
  obtain ⟨w3, hw3⟩ : ∃ x, w2.alloc (.cells #[.slice A 2 cap] 33) = x := ⟨_, rfl⟩
  have hb23 : Below w2.heap.size w2 w3 := by rw [← hw3]; exact bAlloc _ _
  have HK3 : Hid (Bk sb 33 #[.slice A 2 cap] w3) := Lib.hid (by rw [← hw3, ← hsb]; exact Bk.new _ _ _)
  have HS3 : Hid (SlF w3 A [exS, exV]) := Lib.hid (hs2.below hb23)
  have HB13 : Hid (Below w1.heap.size w1 w3) := Lib.hid (bTrans hb2 hb23)
  have HAT : Hid (Calls Tryz.prog 12 #[.agg #[.slice A 2 cap], .int .i64 2] w3 fun e w' => e = .returned (.agg #[.slice A 2 2]) ∧ Below w3.heap.size w3 w') := Lib.hid (st_At [exS, exV] A cap 2 w3 (by decide) hcap)
  have HE := Lib.hid (And.intro hsb hw3)
  clear hsb hw3 hb2 hs2 hb23 HI
  go_upto_region 2 with fail
  rw [HE.out.1, HE.out.2]
  clear HE
  have S0 : w3.cell? ⟨sb, 0, none⟩ = some (.slice A 2 cap) := HK3.out.cell 0
  go_wp2_with fail
  refine HAT.out.mono ?_
  rintro e w4 ⟨rfl, hb4⟩
  have HB14 : Hid (Below w1.heap.size w1 w4) := Lib.hid (bTrans HB13.out hb4)
  have HAB : Hid (Calls Tryz.prog 11 #[.agg #[.slice A 2 2], .int .u32 1, .agg #[.int .i64 19783, .int .i64 19814]] w4 fun e w' => (∃ A' c', e = .returned (.tuple #[.slice A' 3 c', .int .i64 0]) ∧ Sl encAb 5 w' w'.heap.size A' exAb) ∧ Below w4.heap.size w4 w') := Lib.hid (by
    have h := ab_Of [exS, exV] A 2 1 19783 19814 w4 (by decide) (HS3.out.below hb4) (by decide) (by decide)
    rw [exKA] at h
    refine h.mono fun e w' ⟨h1, h2⟩ => ⟨?_, h2⟩
    rw [if_pos (by decide), exAbs] at h1
    obtain ⟨A', c', he, ho⟩ := h1
    obtain ⟨A2, c2, e2, _, h4⟩ := own_sl encAb_len ho
    injection e2 with e2 _ _
    subst e2
    exact ⟨_, c', he, h4⟩)
  clear hb4 HAT S0 HK3 HS3
  go_wp2_with fail
  refine HAB.out.mono ?_
  rintro e w5 ⟨⟨Aa, ca, rfl, hs5⟩, hb5⟩
  obtain ⟨pb, hpb⟩ : ∃ x, w5.heap.size = x := ⟨_, rfl⟩
  obtain ⟨w6, hw6⟩ : ∃ x, w5.alloc (.cells #[.int .i64 480, .int .i64 480, .int .i64 480, .int .i64 480, .int .i64 480, .int .i64 0, .int .i64 0, .slice none 0 0] 58) = x := ⟨_, rfl⟩
  have hb56 : Below w5.heap.size w5 w6 := by rw [← hw6]; exact bAlloc _ _
  have HK6 : Hid (Bk pb 58 #[.int .i64 480, .int .i64 480, .int .i64 480, .int .i64 480, .int .i64 480, .int .i64 0, .int .i64 0, .slice none 0 0] w6) := Lib.hid (by rw [← hw6, ← hpb]; exact Bk.new _ _ _)
  have HB16 : Hid (Below w1.heap.size w1 w6) := Lib.hid (bTrans HB14.out (bTrans hb5 hb56))
  have HMI : Hid (Calls Tryz.prog 24 #[.slice Aa 3 ca, .agg #[.int .i64 480, .int .i64 480, .int .i64 480, .int .i64 480, .int .i64 480, .int .i64 0, .int .i64 0, .slice none 0 0], .agg #[.int .i64 19783, .int .i64 19814], .int .i64 0] w6 fun e w' => e = .returned (.int .i64 1920) ∧ Below w6.heap.size w6 w') := Lib.hid (by
    have h := ab_Minutes exAb Aa ca exH [] none 0 19783 19814 0 w6 (by decide) (sl_bel hs5 hb56) (by decide) (fun d hd => absurd hd (List.not_mem_nil)) (fun h => absurd rfl h) (tabW HC1.out HB16.out)
    rw [exMin] at h
    exact h)
  have HDA : Hid (∀ W, Below w6.heap.size w6 W → Calls Tryz.prog 25 #[.slice Aa 3 ca, .agg #[.int .i64 480, .int .i64 480, .int .i64 480, .int .i64 480, .int .i64 480, .int .i64 0, .int .i64 0, .slice none 0 0], .agg #[.int .i64 19783, .int .i64 19814], .int .i64 0] W fun e w' => e = .returned (.int .i64 4) ∧ Below W.heap.size W w') := Lib.hid fun W hW => by
    have h := ab_Days exAb Aa ca exH [] none 0 19783 19814 0 W (by decide) (sl_bel hs5 (bTrans hb56 hW)) (by decide) (fun d hd => absurd hd (List.not_mem_nil)) (fun h => absurd rfl h) (tabW HC1.out (bTrans HB16.out hW))
    rw [exDay] at h
    exact h
  have HE := Lib.hid (And.intro hpb hw6)
  clear hpb hw6 hb5 hs5 hb56 HAB
  go_upto_region 4 with fail
  rw [HE.out.1, HE.out.2]
  clear HE
  have P0 : w6.cell? ⟨pb, 0, none⟩ = some (.int .i64 480) := HK6.out.cell 0
  have P1 : w6.cell? ⟨pb, 1, none⟩ = some (.int .i64 480) := HK6.out.cell 1
  have P2 : w6.cell? ⟨pb, 2, none⟩ = some (.int .i64 480) := HK6.out.cell 2
  have P3 : w6.cell? ⟨pb, 3, none⟩ = some (.int .i64 480) := HK6.out.cell 3
  have P4 : w6.cell? ⟨pb, 4, none⟩ = some (.int .i64 480) := HK6.out.cell 4
  have P5 : w6.cell? ⟨pb, 5, none⟩ = some (.int .i64 0) := HK6.out.cell 5
  have P6 : w6.cell? ⟨pb, 6, none⟩ = some (.int .i64 0) := HK6.out.cell 6
  have P7 : w6.cell? ⟨pb, 7, none⟩ = some (.slice none 0 0) := HK6.out.cell 7
  go_wp2_with fail
  refine HMI.out.mono ?_
  rintro e w7 ⟨rfl, hb7⟩
  have HB7 := Lib.hid hb7
  have HDA7 := Lib.hid (HDA.out _ hb7)
  clear hb7 P0 P1 P2 P3 P4 P5 P6 P7 HMI HDA
  have P0 : w7.cell? ⟨pb, 0, none⟩ = some (.int .i64 480) := bCell HB7.out (HK6.out.cell 0)
  have P1 : w7.cell? ⟨pb, 1, none⟩ = some (.int .i64 480) := bCell HB7.out (HK6.out.cell 1)
  have P2 : w7.cell? ⟨pb, 2, none⟩ = some (.int .i64 480) := bCell HB7.out (HK6.out.cell 2)
  have P3 : w7.cell? ⟨pb, 3, none⟩ = some (.int .i64 480) := bCell HB7.out (HK6.out.cell 3)
  have P4 : w7.cell? ⟨pb, 4, none⟩ = some (.int .i64 480) := bCell HB7.out (HK6.out.cell 4)
  have P5 : w7.cell? ⟨pb, 5, none⟩ = some (.int .i64 0) := bCell HB7.out (HK6.out.cell 5)
  have P6 : w7.cell? ⟨pb, 6, none⟩ = some (.int .i64 0) := bCell HB7.out (HK6.out.cell 6)
  have P7 : w7.cell? ⟨pb, 7, none⟩ = some (.slice none 0 0) := bCell HB7.out (HK6.out.cell 7)
  go_wp2_with fail
  refine HDA7.out.mono ?_
  rintro e w8 ⟨rfl, hb8⟩
  have HF := Lib.hid (bTrans HB1.out (bTrans HB16.out (bTrans HB7.out hb8)))
  clear hb8 P0 P1 P2 P3 P4 P5 P6 P7 HDA7
  go_wp2
  go_ret
  exact ⟨rfl, HF.out⟩
end Go.Proofs.YtmngghglcgmkeaaGreatDoor

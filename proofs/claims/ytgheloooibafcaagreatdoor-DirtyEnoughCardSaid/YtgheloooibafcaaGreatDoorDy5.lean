import Derived.Test.YtgheloooibafcaaGreatDoorDy3
import Derived.Test.YtgheloooibafcaaGreatDoorRegs
/- dirty.Persons: of whom two views tell unlike things. -/
namespace Go.Proofs.YtgheloooibafcaaGreatDoor
open Go.RowKit Go.Sort

theorem bool_no {b : Bool} (h : b = true) (k : b = false) : False := by rw [h] at k; cases k
/-- A row of one's own of numbers of 32 bits. -/
def Sp.ownU (B : Nat) (l : List Int) : Sp := ⟨fun v w => OwnU B v l w, fun _ _ _ h hb => ownU_below h hb⟩
theorem sps_pure {tbl : List (Nat × Sp)} {dead : List Nat} (h : ∀ p ∈ tbl, p.1 ∈ dead ∨ ∀ v w w', p.2.p v w → p.2.p v w') {t : Nat} (ht : t ∉ dead) {v : Value} {w w' : World} (k : SPS tbl t v w) : SPS tbl t v w' := by
  intro s hs
  have hm : (t, s) ∈ tbl := by
    clear h k
    induction tbl with
    | nil => cases hs
    | cons q r ih =>
      obtain ⟨u, y⟩ := q
      rw [List.lookup_cons] at hs
      by_cases hu : t = u
      · subst hu
        simp at hs
        subst hs
        exact List.mem_cons_self ..
      · have e : (t == u) = false := beq_eq_false_iff_ne.2 hu
        rw [e] at hs
        exact List.mem_cons_of_mem _ (ih hs)
  rcases h _ hm with h | h
  · exact absurd h ht
  · exact h _ _ _ (k s hs)
theorem slU_own {B : Nat} {v : Value} {m : List Int} {w : World} (h : OwnU B v m w) : ∃ A cap, v = .slice A m.length cap ∧ m.length ≤ cap ∧ SlU w A m := by
  obtain ⟨A, cap, e, hc, hs⟩ := own_sl encU_len h
  refine ⟨A, cap, e, hc, fun hm => ?_⟩
  obtain ⟨b, off, rfl, _, hx⟩ := Sl.one hs hm
  exact ⟨b, off, rfl, fun i x hi => hx i x _ hi rfl⟩
section
variable {ops : Array Oper} {Q : Exit → Act → World → Prop} {SP : Nat → Value → World → Prop} {ks : List (Nat × Nat)} {a0 : Act} {w0 : World} {o : Oper} {i d s x : Nat}
/-- An append of numbers of 32 bits to a row of one's own. -/
theorem use_appU {l m : List Int} (hop : o.op = .call { callee := .builtin .append, args := #[.tmp s, .tmp x], argTypes := #[45, 45] }) (hd : o.dst = some d) (hg : o.guard = none) (hs : waitsB .any ops o s = true) (hx : waitsB .any ops o x = true) (hks : ∀ j, (s, j) ∈ ks → j = i) (hkx : ∀ j, (x, j) ∈ ks → j = i)
    (h1 : ∀ v w, SP s v w → OwnU w0.heap.size v l w) (h2 : ∀ v w, SP x v w → OwnU w0.heap.size v m w) (hl : l.length + m.length ≤ 1000000) (h3 : ∀ v w, OwnU w0.heap.size v (l ++ m) w → SP d v w)
    (hp : ∀ t, o.dst ≠ some t → earlyB ops i t = true → (t, i) ∉ ks → ∀ v w w', SP t v w → SP t v w') : OpOkE Tryz.prog ops Q SP ks a0 w0 i o := by
  intro a w hb _ _ hsp
  have hw : Region.wanted o (yielded ops a.tmps) = true := by simp [Region.wanted, hg]
  refine .inl ⟨hw, ?_⟩
  have o1 := h1 _ _ (hsp s hs fun j hj => .inl (hks j hj))
  obtain ⟨A, cap, e2, _, hs2⟩ := slU_own (h2 _ _ (hsp x hx fun j hj => .inl (hkx j hj)))
  have := step_appU (ops := ops) (o := o) (a := a) (K := fun a' w' => ∃ v, a' = a.put o.dst v ∧ Below w0.heap.size w0 w' ∧ (∀ t, o.dst ≠ some t → earlyB ops i t = true → (t, i) ∉ ks → SP t (a.tmps.getD t undef) w → SP t (a.tmps.getD t undef) w') ∧ ∀ d, o.dst = some d → SP d v w') (Q := Q) (E := False) hg (.tmp s) (.tmp x) hop (v := a.tmps.getD s undef) rfl (A := A) (n := m.length) (cap := cap) e2 rfl o1 hs2 hl hb.size
    (fun v' W' ho hgr => ⟨v', rfl, belowU hb hb.size o1 hgr, fun t ht he hk h => hp t ht he hk _ _ _ h, fun d' hd' => by rw [hd] at hd'; cases hd'; exact h3 _ _ ho⟩)
  rw [if_pos hw] at this
  exact this
end
theorem filter_take {p : Int → Bool} {l : List Int} {k : Nat} {x : Int} (h : l[k]? = some x) : (l.take (k + 1)).filter p = (l.take k).filter p ++ (if p x = true then [x] else []) := by
  rw [List.take_add_one, h, List.filter_append]
  congr 1
  by_cases h0 : p x = true <;> simp [h0]
theorem personsL_len (L : List Fa) : (personsL L).length ≤ L.length := by
  unfold personsL
  have h1 := foldU_len (pesL (forceL L)) []
  have h2 := pesL_len (forceL L)
  have h3 := forceL_len L
  simp only [List.length_nil] at h1
  omega
set_option maxHeartbeats 4000000 in
set_option maxRecDepth 100000 in
theorem dy_Persons (X Y : List Fa) (A B : Option Addr) (ca cb : Nat) (w : World) (hx : X.length ≤ 4096) (hy : Y.length ≤ 4096) (hX : SlF w A X) (hY : SlF w B Y) (fX : ∀ f ∈ X, Fit f) (fY : ∀ f ∈ Y, Fit f) :
    Calls Tryz.prog 24 #[.agg #[.slice A X.length ca], .agg #[.slice B Y.length cb]] w fun e w' => (∃ v, e = .returned v ∧ OwnU w.heap.size v (dpL X Y) w') ∧ Below w.heap.size w w' := by
  obtain ⟨ab, hab⟩ : ∃ x, w.heap.size = x := ⟨_, rfl⟩
  obtain ⟨bb, hbb⟩ : ∃ x, ab + 1 = x := ⟨_, rfl⟩
  obtain ⟨w2, hw2⟩ : ∃ x, (w.alloc (.cells #[.slice A X.length ca] 29)).alloc (.cells #[.slice B Y.length cb] 29) = x := ⟨_, rfl⟩
  obtain ⟨k1, k2, k3⟩ := bk2 w _ _ _ hab hbb hw2
  have HC : Hid (∀ W, Below w2.heap.size w2 W → W.cell? ⟨ab, 0, none⟩ = some (.slice A X.length ca) ∧ W.cell? ⟨bb, 0, none⟩ = some (.slice B Y.length cb)) := Lib.hid fun W hW => ⟨bCell hW (k1.cell 0), bCell hW (k2.cell 0)⟩
  have HB2 := Lib.hid k3
  obtain ⟨pX, hpX⟩ : ∃ z, personsL X = z := ⟨_, rfl⟩
  obtain ⟨pY, hpY⟩ : ∃ z, personsL Y = z := ⟨_, rfl⟩
  have hlX : pX.length ≤ 4096 := by rw [← hpX]; have := personsL_len X; omega
  have hlY : pY.length ≤ 4096 := by rw [← hpY]; have := personsL_len Y; omega
  have HPX : Hid (∀ W, Below w2.heap.size w2 W → Calls Tryz.prog 26 #[.agg #[.slice A X.length ca]] W fun e w' => ∃ v, e = .returned v ∧ Below W.heap.size W w' ∧ OwnU w2.heap.size v pX w') := Lib.hid fun W hW =>
    (vi_Persons X A ca W hx (hX.below (bTrans k3 hW))).mono fun e w' ⟨⟨v, he, ho⟩, hb⟩ => ⟨v, he, hb, ownU_base (by rw [← hpX]; exact ho) hW.size⟩
  have HPY : Hid (∀ W, Below w2.heap.size w2 W → Calls Tryz.prog 26 #[.agg #[.slice B Y.length cb]] W fun e w' => ∃ v, e = .returned v ∧ Below W.heap.size W w' ∧ OwnU w2.heap.size v pY w') := Lib.hid fun W hW =>
    (vi_Persons Y B cb W hy (hY.below (bTrans k3 hW))).mono fun e w' ⟨⟨v, he, ho⟩, hb⟩ => ⟨v, he, hb, ownU_base (by rw [← hpY]; exact ho) hW.size⟩
  have HSI : Hid (∀ p W, Below w2.heap.size w2 W → Calls Tryz.prog 22 #[.agg #[.slice A X.length ca], .agg #[.slice B Y.length cb], .int .u32 p] W fun e w' => e = .returned (.tuple #[.int .i64 (sinceL p (changedL X Y)).1, .bool (sinceL p (changedL X Y)).2]) ∧ Below W.heap.size W w') := Lib.hid fun p W hW => dy_Since X Y A B ca cb p W hx hy (hX.below (bTrans k3 hW)) (hY.below (bTrans k3 hW)) fX fY
  have HDP : Hid (dpL X Y = ((pX ++ pY).foldl insU []).filter fun p => (sinceL p (changedL X Y)).2) := Lib.hid (by unfold dpL; rw [hpX, hpY])
  obtain ⟨C, hC⟩ : ∃ z, changedL X Y = z := ⟨_, rfl⟩
  rw [hC] at HSI HDP
  have HE2 := Lib.hid (And.intro hab (And.intro hbb hw2))
  clear hX hY fX fY k1 k2 k3 hpX hpY hC hab hbb hw2
  go_enter Tryz.func24, Tryz.ntmps24
  go_upto_region 1 with fail
  rw [HE2.out.1, HE2.out.2.1, HE2.out.2.2]
  clear HE2
  go_cut [5] from 11 to 15 (fun v wx => Hid (OwnU w2.heap.size v (pX ++ pY) wx ∧ Below w2.heap.size w2 wx))
  case first =>
    refine wp_region_use (SPS [(2, Sp.val (.pointer (some ⟨ab, 0, none⟩))), (3, Sp.val (.pointer (some ⟨bb, 0, none⟩))), (11, Sp.val (.agg #[.slice A X.length ca])), (13, Sp.val (.agg #[.slice B Y.length cb])), (12, Sp.ownU w2.heap.size (pX)), (14, Sp.ownU w2.heap.size (pY)), (15, Sp.ownU w2.heap.size (pX ++ pY)), (5, Sp.ownU w2.heap.size (pX ++ pY))]) [(12, 4), (14, 4)] [11, 12, 13, 14, 15, 5] rfl (by rfl) (by kernel_rfl) (SPS.st _) (by rfl) ?_ (opsK_all ?_) ?_
    · exact sps_start (cons_all rfl (cons_all rfl (nil_all)))
    · refine opsK_cons (by
       exact use_s [] (opOk_load (p := ⟨ab, 0, none⟩) rfl rfl (.inl rfl) (by kernel_rfl) (fun _ _ h => h.get rfl) (fun W hW => by
          have c0 := (HC.out W hW).1
          exact ⟨.agg #[.slice A X.length ca], by go_simp, sps rfl rfl⟩)) (by kernel_rfl) (by rfl)) ?_
      refine opsK_cons (by
       exact use_s [] (opOk_call1 rfl rfl (.inl rfl) (by kernel_rfl) (fun args W => by go_simp) (fun v1 W hW h1 => by rw [show v1 = _ from h1.get rfl]; exact (HPX.out W hW).mono fun e w' ⟨v, he, hb, ho⟩ => ⟨v, he, hb, sps rfl ho⟩)) (by kernel_rfl) (by rfl)) ?_
      refine opsK_cons (by
       exact use_s [] (opOk_load (p := ⟨bb, 0, none⟩) rfl rfl (.inl rfl) (by kernel_rfl) (fun _ _ h => h.get rfl) (fun W hW => by
          have c0 := (HC.out W hW).2
          exact ⟨.agg #[.slice B Y.length cb], by go_simp, sps rfl rfl⟩)) (by kernel_rfl) (by rfl)) ?_
      refine opsK_cons (by
       exact use_s [] (opOk_call1 rfl rfl (.inl rfl) (by kernel_rfl) (fun args W => by go_simp) (fun v1 W hW h1 => by rw [show v1 = _ from h1.get rfl]; exact (HPY.out W hW).mono fun e w' ⟨v, he, hb, ho⟩ => ⟨v, he, hb, sps rfl ho⟩)) (by kernel_rfl) (by rfl)) ?_
      refine opsK_cons (by
       exact use_appU rfl rfl rfl (by kernel_rfl) (by kernel_rfl) (by intro j hj; simpa using hj) (by intro j hj; simpa using hj) (fun _ _ h => h.get rfl) (fun _ _ h => h.get rfl) (by omega) (fun _ _ h => sps rfl h) (fun t hd he hk v w w' h => by
          have ht : t ∉ [12, 14, 15, 5] := by
            intro ht
            simp only [List.mem_cons, List.not_mem_nil, or_false] at ht
            rcases ht with rfl | rfl | rfl | rfl
            · exact hk (by simp)
            · exact hk (by simp)
            · exact hd rfl
            · exact bool_no he (by kernel_rfl)
          exact sps_pure (cons_all (.inr fun _ _ _ h => h) (cons_all (.inr fun _ _ _ h => h) (cons_all (.inr fun _ _ _ h => h) (cons_all (.inr fun _ _ _ h => h) (cons_all (.inl (by simp)) (cons_all (.inl (by simp)) (cons_all (.inl (by simp)) (cons_all (.inl (by simp)) (nil_all))))))))) ht h)) ?_
      refine opsK_cons (by
       exact use_s [12, 14] (opOk_assign rfl rfl (.inl rfl) (by kernel_rfl) (fun _ _ h => sps rfl (h.get rfl))) (by kernel_rfl) (by rfl)) ?_
      exact opsK_nil
    · intro vs W hb hsp
      have ho := (hsp 5 (by simp)).get rfl
      simp only [putAll]
      go_simp
      go_step
      go_meet
      exact Lib.hid ⟨ho, hb⟩
  case rest =>
    have HO3 := Lib.hid hcut.out.1
    have HB3 := Lib.hid hcut.out.2
    clear hcut
    have HSO := Lib.hid (u_SortO HO3.out (by rw [List.length_append]; omega))
    go_wp2_with fail
    refine HSO.out.mono ?_
    rintro e w4 ⟨rfl, ho4, hg4⟩
    have HB4 : Hid (Below w2.heap.size w2 w4) := Lib.hid (belowU HB3.out HB3.out.size HO3.out hg4)
    have HCO := Lib.hid (u_CompactO ho4 (by rw [List.length_mergeSort, List.length_append]; omega))
    have HO4 := Lib.hid ho4
    clear ho4 hg4 HSO HO3
    go_wp2_with fail
    refine HCO.out.mono ?_
    rintro e w5 ⟨⟨v5, rfl, ho5⟩, hg5⟩
    have HB5 : Hid (Below w2.heap.size w2 w5) := Lib.hid (belowU HB4.out HB4.out.size HO4.out hg5)
    rw [cmpct_sort] at ho5
    have HLU : ((pX ++ pY).foldl insU []).length ≤ 8192 := by
      have := foldU_len (pX ++ pY) []
      rw [List.length_append] at this
      simp only [List.length_nil] at this
      omega
    obtain ⟨U, hU⟩ : ∃ z, (pX ++ pY).foldl insU [] = z := ⟨_, rfl⟩
    rw [hU] at ho5 HLU HDP
    obtain ⟨A5, c5, rfl, hc5, hs5⟩ := slU_own ho5
    have HO5 := Lib.hid ho5
    have HS5 := Lib.hid hs5
    clear ho5 hs5 hg5 HCO hU HB4 HO4
    go_wp2
    go_loopw [6, 21] (fun ov iv wr => ∃ k : Nat, k ≤ U.length ∧ iv = .int .i64 k ∧ Hid (OwnU w5.heap.size ov ((U.take k).filter fun p => (sinceL p C).2) wr) ∧ Hid (Below w5.heap.size w5 wr)) (fun _ iv _ => U.length - (intOf iv).toNat)
    case atStart => exact ⟨0, Nat.zero_le _, rfl, Lib.hid (Own.nil _), Lib.hid (Below.refl _ _)⟩
    case round =>
      obtain ⟨k, hk, rfl, HO, HB⟩ := hrel
      by_cases hlt : k < U.length
      · obtain ⟨p, hp⟩ : ∃ x, U[k]? = some x := ⟨_, List.getElem?_eq_getElem hlt⟩
        obtain ⟨b, off, rfl, hat⟩ := HS5.out (by intro h; simp [h] at hlt)
        have c0 : wr.cell? ⟨b, off + k, none⟩ = some (.int .u32 p) := bCell HB.out (hat k p hp)
        have HT := Lib.hid (filter_take (p := fun p => (sinceL p C).2) hp)
        have HLE : ((U.take k).filter fun p => (sinceL p C).2).length + 1 ≤ 1000000000 := by have := List.length_filter_le (fun p => (sinceL p C).2) (U.take k); rw [List.length_take] at this; omega
        have hlt2 : (k : Int) < (U.length : Int) := by omega
        have HBr := Lib.hid (bTrans HB5.out HB.out)
        obtain ⟨a0, b0⟩ := HC.out _ HBr.out
        have HSP := Lib.hid (HSI.out p _ HBr.out)
        obtain ⟨sp, hsp⟩ : ∃ z, (sinceL p C).1 = z := ⟨_, rfl⟩
        obtain ⟨sq, hsq⟩ : ∃ z, (sinceL p C).2 = z := ⟨_, rfl⟩
        rw [hsq] at HT
        rw [hsp, hsq] at HSP
        clear hat hp hsp hsq
        go_wp2_with fail
        refine HSP.out.mono ?_
        rintro e w6 ⟨rfl, hb6⟩
        have HB6 := Lib.hid (bTrans HB.out hb6)
        have HO6 := Lib.hid (ownU_below HO.out hb6)
        have HZ6 : Hid (w5.heap.size ≤ w6.heap.size) := Lib.hid HB6.out.size
        clear hb6 a0 b0 c0 HSP HBr
        cases sq with
        | false =>
          have HC3 : Hid ((U.take (k + 1)).filter (fun p => (sinceL p C).2) = (U.take k).filter fun p => (sinceL p C).2) := Lib.hid (by rw [HT.out, if_neg (by simp), List.append_nil])
          go_wp2
          exact ⟨⟨k + 1, by omega, by go_num, Lib.hid (by rw [HC3.out]; exact HO6.out), HB6⟩, by simp [intOf]; omega⟩
        | true =>
          have HC3 : Hid ((U.take (k + 1)).filter (fun p => (sinceL p C).2) = ((U.take k).filter fun p => (sinceL p C).2) ++ [p]) := Lib.hid (by rw [HT.out, if_pos rfl])
          obtain ⟨D, hD⟩ : ∃ z, (U.take k).filter (fun p => (sinceL p C).2) = z := ⟨_, rfl⟩
          rw [hD] at HO6 HC3 HLE
          clear hD HO
          go_wp2_with ((at_builtin; refine wpList_append_row encU_len encU_one rfl _ _ 45 rfl w5.heap.size 23 _ 4 Tryz.underlying45 u32Info rfl (by decide) _ D p rfl (HO6.out.alloc _) w6.heap.size 1 rfl (newsU p w6) HLE (by decide) (Nat.le_trans HZ6.out (Grows.of_alloc _ _).size) ?_))
          intro v7 w7 hown7 hgr7
          have HB7 : Hid (Below w5.heap.size w5 w7) := Lib.hid (belowU (bTrans HB6.out (bAlloc w6 _)) (Nat.le_trans HZ6.out (Grows.of_alloc _ _).size) (HO6.out.alloc _) hgr7)
          have HO7 : Hid (OwnU w5.heap.size v7 ((U.take (k + 1)).filter fun p => (sinceL p C).2) w7) := Lib.hid (by rw [HC3.out]; exact hown7)
          clear hown7 hgr7
          go_wp2
          exact ⟨⟨k + 1, by omega, by go_num, HO7, HB7⟩, by simp [intOf]; omega⟩
      · obtain rfl : k = U.length := by omega
        rw [List.take_length] at HO
        go_wp2
        go_ret
        exact ⟨⟨_, rfl, by rw [HDP.out]; exact ownU_base HO.out (Nat.le_trans HB2.out.size HB5.out.size)⟩, bTrans HB2.out (bTrans HB5.out HB.out)⟩
end Go.Proofs.YtgheloooibafcaaGreatDoor

import Derived.Test.YtlgoaohklggcdaaGreatDoorAba
/- absent.parts, walked. -/
namespace Go.Proofs.YtlgoaohklggcdaaGreatDoor
open Go.RowKit Go.Sort

/-- An absence. -/
structure Ab where
  fr : Int
  «to» : Int
  ki : Int
  pa : Int
  nn : Int
def encAb (x : Ab) : List Value := [.int .i64 x.fr, .int .i64 x.to, .int .i64 x.ki, .int .i64 x.pa, .int .i64 x.nn]
theorem encAb_len (x : Ab) : (encAb x).length = 5 := rfl
theorem encAb_one (x : Ab) : ∀ u ∈ encAb x, u.oneCell' = true := by
  intro u hu
  simp [encAb] at hu
  rcases hu with rfl | rfl | rfl | rfl | rfl <;> rfl
def selA (l : List Ab) (F U k : Int) : List Spn := l.filterMap fun x => if x.ki = k then some (max x.fr F, min x.to U) else none
theorem selA_take {l : List Ab} {i : Nat} {x : Ab} (F U k : Int) (h : l[i]? = some x) : selA (l.take (i + 1)) F U k = selA (l.take i) F U k ++ (if x.ki = k then [(max x.fr F, min x.to U)] else []) := by
  unfold selA
  rw [List.take_add_one, h, Option.toList_some, List.filterMap_append]
  congr 1
  by_cases hk : x.ki = k <;> simp [hk]
theorem selA_len (l : List Ab) (F U k : Int) : (selA l F U k).length ≤ l.length := List.length_filterMap_le _ _
def endP (e : Int) (P : List Spn) : Int := P.foldl (fun e p => max e p.2) e
def cutP (e : Int) : List Spn → List Spn
  | [] => []
  | p :: P => (max p.1 e, p.2) :: cutP (max e p.2) P
theorem cutP_len : ∀ (P : List Spn) (e : Int), (cutP e P).length = P.length
  | [], _ => rfl
  | p :: P, e => by rw [cutP, List.length_cons, cutP_len P, List.length_cons]
theorem cutP_snoc (p : Spn) : ∀ (P : List Spn) (e : Int), cutP e (P ++ [p]) = cutP e P ++ [(max p.1 (endP e P), p.2)]
  | [], e => rfl
  | q :: P, e => by
    rw [List.cons_append, cutP, cutP_snoc p P, cutP, List.cons_append]
    rfl
def cutL (F : Int) (m : List Spn) (k : Nat) : List Spn := cutP F (m.take k) ++ m.drop k
theorem cutL_zero (F : Int) (m : List Spn) : cutL F m 0 = m := rfl
theorem cutL_all (F : Int) (m : List Spn) : cutL F m m.length = cutP F m := by
  unfold cutL
  rw [List.take_length, List.drop_length, List.append_nil]
theorem cutL_len (F : Int) (m : List Spn) (k : Nat) : (cutL F m k).length = m.length := by
  unfold cutL
  rw [List.length_append, cutP_len, ← List.length_append, List.take_append_drop]
theorem cutL_at {F : Int} {m : List Spn} {k : Nat} {p : Spn} (h : m[k]? = some p) : (cutL F m k)[k]? = some p := by
  have hk := (List.getElem?_eq_some_iff.1 h).1
  unfold cutL
  rw [List.getElem?_append_right (by rw [cutP_len, List.length_take]; omega), cutP_len, List.length_take, Nat.min_eq_left (by omega), Nat.sub_self, List.getElem?_drop, Nat.add_zero]
  exact h
theorem cutL_succ {F : Int} {m : List Spn} {k : Nat} {p : Spn} (h : m[k]? = some p) : (cutL F m k).set k (max p.1 (endP F (m.take k)), p.2) = cutL F m (k + 1) := by
  have hk := List.getElem?_eq_some_iff.1 h
  have hl : (cutP F (m.take k)).length = k := by rw [cutP_len, List.length_take]; have := hk.1; omega
  unfold cutL
  rw [List.set_append_right _ _ (by omega), hl, Nat.sub_self, List.drop_eq_getElem_cons hk.1, List.set_cons_zero, List.take_add_one, h, Option.toList_some, cutP_snoc, List.append_assoc]
  rfl
theorem endP_succ {F : Int} {m : List Spn} {k : Nat} {p : Spn} (h : m[k]? = some p) : endP F (m.take (k + 1)) = max (endP F (m.take k)) p.2 := by
  unfold endP
  rw [List.take_add_one, h, Option.toList_some, List.foldl_append]
  rfl
theorem rowSet : ∀ (L : List Spn) (i : Nat) (a y x : Int), L[i]? = some (a, y) → (rowOf encSp L).set (i * 2) (.int .i64 x) = rowOf encSp (L.set i (x, y))
  | [], i, a, y, x, h => by simp at h
  | p :: L, 0, a, y, x, h => by
    simp at h
    subst h
    rfl
  | p :: L, i + 1, a, y, x, h => by
    have ih := rowSet L i a y x (by simpa using h)
    have e1 : rowOf encSp (p :: L) = encSp p ++ rowOf encSp L := rfl
    rw [e1, List.set_append_right _ _ (by rw [encSp_len]; omega), encSp_len, show (i + 1) * 2 - 2 = i * 2 by omega, ih]
    rfl
theorem ownSp_lower {B B' : Nat} {w : World} {v : Value} {l : List Spn} (h : OwnSp B v l w) (hB : B' ≤ B) : OwnSp B' v l w := by
  rcases h with ⟨h1, h2⟩
  refine ⟨h1, ?_⟩
  rcases h2 with h0 | ⟨g, cap, cur, hv, hb, hr⟩
  · exact .inl h0
  · exact .inr ⟨g, cap, cur, hv, Nat.le_trans hB hb, hr⟩
theorem ownSp_set {B g cap : Nat} {L : List Spn} {i : Nat} {a y x : Int} {w : World} (h : OwnSp B (.slice (some ⟨g, 0, none⟩) L.length cap) L w) (hi : L[i]? = some (a, y)) :
    OwnSp B (.slice (some ⟨g, 0, none⟩) L.length cap) (L.set i (x, y)) (w.setCell ⟨g, i * 2, none⟩ (.int .i64 x)) ∧ w.frozen? ⟨g, i * 2, none⟩ = false := by
  have hrow : w.ownsRow B 31 2 (.slice (some ⟨g, 0, none⟩) L.length cap) L.length (rowOf encSp L) := h
  refine ⟨?_, World.ownsRow.frozenAt hrow (i * 2)⟩
  have hst := World.ownsRow.stored hrow (i * 2) (.int .i64 x)
  rw [rowSet L i a y x hi] at hst
  show World.ownsRow _ _ _ _ _ (L.set i (x, y)).length _
  rw [List.length_set]
  exact hst.1
set_option maxHeartbeats 4000000 in
set_option maxRecDepth 100000 in
theorem ab_parts (l : List Ab) (A : Option Addr) (c : Nat) (F U k : Int) (w : World) (hl : l.length ≤ 100000) (hs : Sl encAb 5 w w.heap.size A l) :
    Calls Tryz.prog 124 #[.slice A l.length c, .agg #[.int .i64 F, .int .i64 U], .int .i64 k] w fun e w' => ∃ (m : List Spn) (A' : Option Addr) (c' : Nat), SrtS (selA l F U k) m ∧ e = .returned (.slice A' m.length c') ∧ OwnSp w.heap.size (.slice A' m.length c') (cutP F m) w' ∧ Below w.heap.size w w' := by
  obtain ⟨sb, hsb⟩ : ∃ z, w.heap.size = z := ⟨_, rfl⟩
  obtain ⟨w2, hw2⟩ : ∃ z, w.alloc (.cells #[.int .i64 F, .int .i64 U] 31) = z := ⟨_, rfl⟩
  have hb2 : Below w.heap.size w w2 := by rw [← hw2]; exact bAlloc _ _
  have HB2 := Lib.hid hb2
  have HK2 : Hid (Bk sb 31 #[.int .i64 F, .int .i64 U] w2) := Lib.hid (by rw [← hw2, ← hsb]; exact Bk.new _ _ _)
  have HS2 := Lib.hid (sl_bel hs hb2)
  have HSZ2 : Hid (w2.heap.size = w.heap.size + 1) := Lib.hid (by rw [← hw2]; simp)
  have HE := Lib.hid (And.intro hsb hw2)
  clear hs hb2 hw2 hsb
  go_enter Tryz.func124, Tryz.ntmps124
  go_upto_region 1 with fail
  rw [HE.out.1, HE.out.2]
  have HE0 := HE.out.1
  clear HE
  go_wp2
  go_loopw [7, 15] (fun ov iv wr => ∃ i : Nat, i ≤ l.length ∧ iv = .int .i64 i ∧ (∃ A' c', ov = .slice A' (selA (l.take i) F U k).length c' ∧ Hid (OwnSp w2.heap.size (.slice A' (selA (l.take i) F U k).length c') (selA (l.take i) F U k) wr)) ∧ Hid (Below w2.heap.size w2 wr)) (fun _ iv _ => l.length - (intOf iv).toNat)
  case atStart => exact ⟨0, Nat.zero_le _, rfl, ⟨none, 0, rfl, Lib.hid (Own.nil _)⟩, Lib.hid (Below.refl _ _)⟩
  case round =>
    obtain ⟨i, hi, rfl, ⟨Ao, co, rfl, HO⟩, HB⟩ := hrel
    by_cases hlt : i < l.length
    · obtain ⟨⟨xf, xt, xk, xp, xn⟩, hx⟩ : ∃ x, l[i]? = some x := ⟨_, List.getElem?_eq_getElem hlt⟩
      obtain ⟨g, o, rfl, _, hat⟩ := HS2.out (by intro h; simp [h] at hx)
      have C0 : wr.cell? ⟨g, o + i * 5, none⟩ = some (.int .i64 xf) := bCell HB.out (hat i _ hx 0 _ rfl)
      have C1 : wr.cell? ⟨g, o + i * 5 + 1, none⟩ = some (.int .i64 xt) := bCell HB.out (hat i _ hx 1 _ rfl)
      have C2 : wr.cell? ⟨g, o + i * 5 + 2, none⟩ = some (.int .i64 xk) := bCell HB.out (hat i _ hx 2 _ rfl)
      have C3 : wr.cell? ⟨g, o + i * 5 + 3, none⟩ = some (.int .i64 xp) := bCell HB.out (hat i _ hx 3 _ rfl)
      have C4 : wr.cell? ⟨g, o + i * 5 + 4, none⟩ = some (.int .i64 xn) := bCell HB.out (hat i _ hx 4 _ rfl)
      have HST := Lib.hid (selA_take F U k hx)
      have hsl : (selA (l.take i) F U k).length ≤ 100000 := by
        have h1 := selA_len (l.take i) F U k
        rw [List.length_take] at h1
        omega
      obtain ⟨S, hS⟩ : ∃ S, selA (l.take i) F U k = S := ⟨_, rfl⟩
      rw [hS] at HST HO hsl ⊢
      obtain ⟨xb, hxb⟩ : ∃ z, wr.heap.size = z := ⟨_, rfl⟩
      obtain ⟨wx, hwx⟩ : ∃ z, wr.alloc (.cells #[.int .i64 xf, .int .i64 xt, .int .i64 xk, .int .i64 xp, .int .i64 xn] 89) = z := ⟨_, rfl⟩
      have hbx : Below wr.heap.size wr wx := by rw [← hwx]; exact bAlloc _ _
      have hkx : Bk xb 89 #[.int .i64 xf, .int .i64 xt, .int .i64 xk, .int .i64 xp, .int .i64 xn] wx := by rw [← hwx, ← hxb]; exact Bk.new _ _ _
      have HOX : Hid (OwnSp w2.heap.size (.slice Ao S.length co) S wx) := Lib.hid (own_bel HO.out hbx)
      have HBX : Hid (Below w2.heap.size w2 wx) := Lib.hid (bTrans HB.out hbx)
      have X0 : wx.cell? ⟨xb, 0, none⟩ = some (.int .i64 xf) := hkx.cell 0
      have X1 : wx.cell? ⟨xb, 1, none⟩ = some (.int .i64 xt) := hkx.cell 1
      have X2 : wx.cell? ⟨xb, 2, none⟩ = some (.int .i64 xk) := hkx.cell 2
      have S0 : wx.cell? ⟨sb, 0, none⟩ = some (.int .i64 F) := bCell HBX.out (HK2.out.cell 0)
      have S1 : wx.cell? ⟨sb, 1, none⟩ = some (.int .i64 U) := bCell HBX.out (HK2.out.cell 1)
      have HE := Lib.hid (And.intro hxb hwx)
      have hlt2 : (i : Int) < (l.length : Int) := by omega
      clear hx hat hxb hwx hbx hkx HB HO hS
      go_upto_region 5 with fail
      rw [HE.out.1, HE.out.2]
      clear HE C0 C1 C2 C3 C4
      by_cases hki : xk = k
      · have HSN : Hid (selA (l.take (i + 1)) F U k = S ++ [(max xf F, min xt U)]) := Lib.hid (by rw [HST.out, if_pos hki])
        have HSL : Hid ((S ++ [(max xf F, min xt U)]).length = S.length + 1) := Lib.hid (by simp)
        subst hki
        have HZX : Hid (w2.heap.size ≤ wx.heap.size) := Lib.hid HBX.out.size
        go_upto_region 6 with fail
        go_wp2_with ((at_builtin; refine wpList_append_row encSp_len encSp_one rfl _ _ 72 rfl w2.heap.size 31 _ 16 Tryz.underlying72 spanInfo rfl (by decide) _ S (max xf F, min xt U) rfl (HOX.out.alloc _) wx.heap.size 1 rfl (newsSp (max xf F, min xt U) wx) (by omega) (by decide) (Nat.le_trans HZX.out (Grows.of_alloc wx _).size) ?_))
        intro v9 w9 hown9 hgr9
        have HB9 : Hid (Below w2.heap.size w2 w9) := Lib.hid (belowSp (HBX.out.trans ((bAlloc wx _).mono HZX.out)) (Nat.le_trans HZX.out (Grows.of_alloc wx _).size) (HOX.out.alloc _) hgr9)
        obtain ⟨A9, c9, rfl, _, _⟩ := own_sl encSp_len hown9
        rw [HSL.out] at hown9 ⊢
        have HO9 := Lib.hid hown9
        clear hown9 hgr9 X0 X1 X2 S0 S1
        go_wp2
        exact ⟨⟨i + 1, by omega, by go_num, by rw [HSN.out, HSL.out]; exact ⟨A9, c9, rfl, HO9⟩, HB9⟩, by simp [intOf]; omega⟩
      · have HSN : Hid (selA (l.take (i + 1)) F U k = S) := Lib.hid (by rw [HST.out, if_neg hki, List.append_nil])
        have hkq : (xk == k) = false := beq_eq_false_iff_ne.2 hki
        go_wp2
        exact ⟨⟨i + 1, by omega, by go_num, by rw [HSN.out]; exact ⟨Ao, co, rfl, HOX⟩, HBX⟩, by simp [intOf]; omega⟩
    · obtain rfl : i = l.length := by omega
      rw [List.take_length] at HO ⊢
      obtain ⟨S, hS⟩ : ∃ S, selA l F U k = S := ⟨_, rfl⟩
      have hsl : S.length ≤ 100000 := by have := selA_len l F U k; rw [hS] at this; omega
      rw [hS] at HO ⊢
      have HSO := Lib.hid (ab_Sort HO.out (by omega))
      have HSB := Lib.hid hS
      clear hlt hS
      go_wp2_with fail
      refine HSO.out.mono ?_
      rintro e w9 ⟨rfl, m, hm, ho9, hg9⟩
      have hml : m.length = S.length := hm.1.length_eq
      have HB9 : Hid (Below w2.heap.size w2 w9) := Lib.hid (belowSp HB.out HB.out.size HO.out hg9)
      have HM := Lib.hid hm
      have HO9 : Hid (OwnSp w2.heap.size (.slice Ao S.length co) m w9) := Lib.hid ho9
      have S0 : w9.cell? ⟨sb, 0, none⟩ = some (.int .i64 F) := bCell HB9.out (HK2.out.cell 0)
      clear hm ho9 hg9 HSO HB HO
      go_wp2
      clear S0
      go_loopw [10, 46] (fun ev kv wr => ∃ k2 : Nat, k2 ≤ S.length ∧ kv = .int .i64 k2 ∧ (∃ E : Int, ev = .int .i64 E ∧ Hid (endP F (m.take k2) = E)) ∧ Hid (OwnSp w2.heap.size (.slice Ao S.length co) (cutL F m k2) wr) ∧ Hid (Below w2.heap.size w2 wr)) (fun _ kv _ => S.length - (intOf kv).toNat)
      case atStart => exact ⟨0, Nat.zero_le _, rfl, ⟨F, rfl, Lib.hid rfl⟩, HO9, HB9⟩
      case round =>
        obtain ⟨i, hi, rfl, ⟨E, rfl, HEN⟩, HO, HB⟩ := hrel
        by_cases hlt : i < S.length
        · obtain ⟨⟨p1, p2⟩, hx⟩ : ∃ x, m[i]? = some x := ⟨_, List.getElem?_eq_getElem (by omega)⟩
          have hne : cutL F m i ≠ [] := by
            intro h
            have := cutL_len F m i
            rw [h] at this
            simp at this
            omega
          obtain ⟨g, cap, hv, hbg, hr⟩ := Own.row encSp_len HO.out hne
          injection hv with hv1 hv2 hv3
          subst hv1
          subst hv3
          have hat := cutL_at (F := F) hx
          have C0 : wr.cell? ⟨g, i * 2, none⟩ = some (.int .i64 p1) := hr.cell hat (j := 0) rfl
          have C1 : wr.cell? ⟨g, i * 2 + 1, none⟩ = some (.int .i64 p2) := hr.cell hat (j := 1) rfl
          have HSU := Lib.hid (cutL_succ (F := F) hx)
          have HEU := Lib.hid (endP_succ (F := F) hx)
          rw [HEN.out] at HSU HEU
          obtain ⟨xb, hxb⟩ : ∃ z, wr.heap.size = z := ⟨_, rfl⟩
          obtain ⟨wx, hwx⟩ : ∃ z, wr.alloc (.cells #[.int .i64 p1, .int .i64 p2] 31) = z := ⟨_, rfl⟩
          have hbx : Below wr.heap.size wr wx := by rw [← hwx]; exact bAlloc _ _
          have hkx : Bk xb 31 #[.int .i64 p1, .int .i64 p2] wx := by rw [← hwx, ← hxb]; exact Bk.new _ _ _
          have hox : OwnSp w2.heap.size (.slice (some ⟨g, 0, none⟩) (cutL F m i).length co) (cutL F m i) wx := by
            rw [cutL_len, hml]
            exact own_bel HO.out hbx
          obtain ⟨hst, F0⟩ := ownSp_set (x := max p1 E) hox hat
          rw [HSU.out, cutL_len, hml] at hst
          have hgx : g < xb := by rw [← hxb]; exact hr.lt
          have HBX : Hid (Below w2.heap.size w2 (wx.setCell ⟨g, i * 2, none⟩ (.int .i64 (max p1 E)))) := Lib.hid ((bTrans HB.out hbx).setCell (p := ⟨g, i * 2, none⟩) hbg _)
          have HOX := Lib.hid hst
          have X0 : wx.cell? ⟨xb, 0, none⟩ = some (.int .i64 p1) := hkx.cell 0
          have X1 : (wx.setCell ⟨g, i * 2, none⟩ (.int .i64 (max p1 E))).cell? ⟨xb, 1, none⟩ = some (.int .i64 p2) := by
            rw [World.cell?_setCell_other _ _ _ _ (by intro h; simp only [Addr.mk.injEq] at h; omega)]
            exact hkx.cell 1
          have D0 : wx.cell? ⟨g, i * 2, none⟩ = some (.int .i64 p1) := bCell hbx C0
          have HE := Lib.hid (And.intro hxb hwx)
          have hlt2 : (i : Int) < (S.length : Int) := by omega
          clear hx hat hxb hwx hbx hkx hst hox HB HO hne hr hbg
          go_upto_region 13 with fail
          rw [HE.out.1, HE.out.2]
          clear HE C0 C1
          go_upto_region 14 with fail
          obtain ⟨wy, hwy⟩ : ∃ z, wx.setCell ⟨g, i * 2, none⟩ (.int .i64 (max p1 E)) = z := ⟨_, rfl⟩
          rw [hwy] at HBX HOX X1 ⊢
          clear hwy X0 D0 F0
          go_wp2
          exact ⟨⟨i + 1, by omega, by go_num, ⟨max E p2, rfl, HEU⟩, HOX, HBX⟩, by simp [intOf]; omega⟩
        · obtain rfl : i = S.length := by omega
          have HFI : Hid (∃ (m : List Spn) (A' : Option Addr) (c' : Nat), SrtS (selA l F U k) m ∧ Ending.returned (.slice Ao S.length co) = .returned (.slice A' m.length c') ∧ OwnSp w.heap.size (.slice A' m.length c') (cutP F m) wr ∧ Below w.heap.size w wr) := Lib.hid ⟨m, Ao, co, by rw [HSB.out]; exact HM.out, by rw [hml], by
            have h := HO.out
            rw [← hml, cutL_all] at h
            exact ownSp_lower h (by rw [HSZ2.out]; omega), bTrans HB2.out HB.out⟩
          clear hlt
          go_wp2
          go_ret
          exact HFI.out
end Go.Proofs.YtlgoaohklggcdaaGreatDoor

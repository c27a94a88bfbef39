import Derived.Test.YtlgoaohklggcdaaGreatDoorAbo
import Derived.Test.YtlgoaohklggcdaaGreatDoorRgw
import Derived.BigQuiet
/- The document's absences of a span. Printed by gen/mkabp.py. -/
namespace Go.Proofs.YtlgoaohklggcdaaGreatDoor
open Go.RowKit Go.Sort

def mAt (M : List Ab) (k : Int) : Ab := (M[k.toNat]?).getD ⟨0, 0, 0, 0, 0⟩
def setTo (O : List Ab) (e : Int) : List Ab := match O.getLast? with
  | some x => O.dropLast ++ [⟨x.fr, e, x.ki, x.pa, x.nn⟩]
  | none => O
theorem setTo_snoc (Q : List Ab) (q : Ab) (e : Int) : setTo (Q ++ [q]) e = Q ++ [⟨q.fr, e, q.ki, q.pa, q.nn⟩] := by
  unfold setTo
  simp
def rfS (M : List Ab) (s : List Ab × Int) (d k : Int) : List Ab × Int := if 0 ≤ k then (if k = s.2 then (setTo s.1 (d + 1), k) else (s.1 ++ [⟨d, d + 1, (mAt M k).ki, (mAt M k).pa, (mAt M k).nn⟩], k)) else (s.1, k)
/-- The document's absences of n days, and the place of the one on the last of them. -/
def rfN (M : List Ab) (F : Int) : Nat → List Ab × Int
  | 0 => ([], -1)
  | n + 1 => rfS M (rfN M F n) (F + n) (atM M (F + n) M.length)
theorem setTo_len (O : List Ab) (e : Int) : (setTo O e).length = O.length := by
  rcases O.eq_nil_or_concat with h | ⟨Q, q, h⟩
  · subst h; rfl
  · rw [List.concat_eq_append] at h; subst h; rw [setTo_snoc]; simp
theorem rfN_bd (M : List Ab) (F : Int) : ∀ n, (rfN M F n).1.length ≤ n ∧ (0 ≤ (rfN M F n).2 → (rfN M F n).1 ≠ []) ∧ ((rfN M F n).2 = -1 ∨ ∃ j : Nat, (rfN M F n).2 = j ∧ j < M.length)
  | 0 => ⟨Nat.le_refl _, fun h => absurd h (by show ¬ (0 : Int) ≤ -1; omega), .inl rfl⟩
  | n + 1 => by
    obtain ⟨h1, h2, h3⟩ := rfN_bd M F n
    have hk : atM M (F + n) M.length = -1 ∨ ∃ j : Nat, atM M (F + n) M.length = j ∧ j < M.length := by
      rcases atM_bd M (F + n) M.length with h | ⟨j, h4, _, h5⟩
      · exact .inl h
      · exact .inr ⟨j, h4, h5⟩
    unfold rfN rfS
    by_cases h : 0 ≤ atM M (F + n) M.length
    · by_cases he : atM M (F + n) M.length = (rfN M F n).2
      · rw [if_pos h, if_pos he]
        refine ⟨by rw [setTo_len]; omega, fun _ hn => ?_, hk⟩
        have h4 := congrArg List.length hn
        rw [setTo_len] at h4
        exact h2 (by omega) (List.eq_nil_of_length_eq_zero h4)
      · rw [if_pos h, if_neg he]
        exact ⟨by simp; omega, fun _ => by simp, hk⟩
    · rw [if_neg h]
      exact ⟨by show (rfN M F n).1.length ≤ n + 1; omega, fun h4 => absurd h4 h, hk⟩
abbrev OwnAr (B : Nat) (v : Value) (l : List Ab) (w : World) : Prop := Own encAb 5 90 B v l w
theorem arInfo : (Tryz.prog.info? 90).map (fun i => (i.zero, i.size, i.bytes)) = some (some (.agg #[.int .i64 0, .int .i64 0, .int .i64 0, .int .i64 0, .int .i64 0]), 5, 40) := by kernel_rfl
theorem setLastAr {O : List Ab} {q : Ab} {c : Int} : (rowOf encAb (O ++ [q])).set (O.length * 5 + 1) (.int .i64 c) = rowOf encAb (O ++ [⟨q.fr, c, q.ki, q.pa, q.nn⟩]) := by
  rw [rowOf_append, rowOf_append]
  have hl : (rowOf encAb O).length = O.length * 5 := rowOf_length encAb_len O
  rw [List.set_append_right _ _ (by omega), hl, Nat.add_sub_cancel_left]
  rfl
theorem ownAr_snoc {B : Nat} {v : Value} {l : List Ab} {x : Ab} {w : World} (h : w.ownsRow B 90 5 v (l.length + 1) (rowOf encAb (l ++ [x]))) : OwnAr B v (l ++ [x]) w := by
  show w.ownsRow B _ 5 v (l ++ [x]).length _
  rw [show (l ++ [x]).length = l.length + 1 by simp]
  exact h
theorem ownAr_add {B : Nat} {v : Value} {l : List Ab} {x : Ab} {w : World} (h : w.ownsRow B 90 5 v (l.length + 1) (rowOf encAb l ++ encAb x)) : OwnAr B v (l ++ [x]) w := by
  refine ownAr_snoc ?_
  rw [rowOf_append, rowOf_one]
  exact h
theorem lastAr {B cp : Nat} {A : Option Addr} {O : List Ab} {x : Ab} {w : World} (h : OwnAr B (.slice A (O.length + 1) cp) (O ++ [x]) w) :
    ∃ g, A = some ⟨g, 0, none⟩ ∧ B ≤ g ∧ g < w.heap.size ∧ (∀ j u, (encAb x)[j]? = some u → w.cell? ⟨g, O.length * 5 + j, none⟩ = some u) ∧ w.ownsRow B 90 5 (.slice (some ⟨g, 0, none⟩) (O.length + 1) cp) (O.length + 1) (rowOf encAb (O ++ [x])) := by
  obtain ⟨g, cap, hv, hb, hr⟩ := Own.row encAb_len h (by simp)
  injection hv with h1 h2 h3
  subst h1; subst h3
  refine ⟨g, rfl, hb, hr.lt, fun j u hu => hr.cell (i := O.length) (by simp) hu, ?_⟩
  have h2 : w.ownsRow B 90 5 (.slice (some ⟨g, 0, none⟩) (O.length + 1) cp) (O ++ [x]).length (rowOf encAb (O ++ [x])) := h
  rwa [show (O ++ [x]).length = O.length + 1 by simp] at h2
theorem slAr {B : Nat} {v : Value} {O : List Ab} {w : World} (h : OwnAr B v O w) : ∃ A c, v = .slice A O.length c ∧ Hid (OwnAr B (.slice A O.length c) O w) := by
  obtain ⟨A, c, e, _⟩ := own_sl encAb_len h
  exact ⟨A, c, e, Lib.hid (by rw [← e]; exact h)⟩
theorem belowAr {B : Nat} {w0 w w' : World} {v : Value} {l : List Ab} (h : Below B w0 w) (hB : B ≤ w.heap.size) (ho : OwnAr B v l w) (hg : w.grownBy w' v.ownBlock) : Below B w0 w' :=
  h.trans ⟨hg.os, hg.tape, hg.output, hg.size, fun i hi => hg.block i (by omega) (ho.far hi)⟩
def spGr (B : Nat) (v : Value) (l : List Ab) : Sp := ⟨fun _ w => OwnAr B v l w, fun _ _ _ h hb => own_bel h hb⟩
def spOr (B : Nat) (v : Value) (l : List Ab) : Sp := ⟨fun u w => u = v ∧ OwnAr B v l w, fun _ _ _ h hb => ⟨h.1, own_bel h.2 hb⟩⟩
def spOrE (B : Nat) (l : List Ab) : Sp := ⟨fun u w => OwnAr B u l w, fun _ _ _ h hb => own_bel h hb⟩
/-- What ref18.Of answers. -/
def Of18 (M : List Ab) (F U : Int) (w : World) (e : Ending) (w' : World) : Prop := (∃ A c, e = .returned (.slice A (rfN M F (U - F).toNat).1.length c) ∧ Sl encAb 5 w' w'.heap.size A (rfN M F (U - F).toNat).1) ∧ Below w.heap.size w w'
theorem Of18.of {M : List Ab} {F U : Int} {w w' : World} {e : Ending} {O : List Ab} {B : Nat} {v : Value} (hO : (rfN M F (U - F).toNat).1 = O) (he : e = .returned v) (ho : OwnAr B v O w') (hb : Below w.heap.size w w') : Of18 M F U w e w' := by
  subst hO
  obtain ⟨A, c, h1, _, h2⟩ := own_sl encAb_len ho
  exact ⟨⟨A, c, by rw [he, h1], h2⟩, hb⟩
set_option maxHeartbeats 8000000 in
set_option maxRecDepth 100000 in
theorem r18_Of (M : List Ab) (A : Option Addr) (cap : Nat) (F U : Int) (w : World) (hn : M.length ≤ 1000000) (hs : Sl encTo 5 w w.heap.size A M) (hF : -4398046511104 ≤ F ∧ F ≤ 4398046511104) (hU : -9223372036854775808 ≤ U ∧ U ≤ 4398046511104) (hUF : U - F ≤ 100000) :
    Calls Tryz.prog 45 #[.slice A M.length cap, .agg #[.int .i64 F, .int .i64 U]] w (Of18 M F U w) := by
  obtain ⟨sb, hsb⟩ : ∃ x, w.heap.size = x := ⟨_, rfl⟩
  obtain ⟨w2, hw2⟩ : ∃ x, w.alloc (.cells #[.int .i64 F, .int .i64 U] 31) = x := ⟨_, rfl⟩
  have hb2 : Below w.heap.size w w2 := by rw [← hw2]; exact bAlloc _ _
  have HB2 := Lib.hid hb2
  have HBS : Hid (Bk sb 31 #[.int .i64 F, .int .i64 U] w2) := Lib.hid (by rw [← hw2, ← hsb]; exact Bk.new _ _ _)
  have HS2 := Lib.hid (sl_bel hs hb2)
  have HAT : Hid (∀ d W, Below w2.heap.size w2 W → Calls Tryz.prog 83 #[.slice A M.length cap, .int .i64 d] W fun e w' => e = .returned (.int .i64 (atM M d M.length)) ∧ Below W.heap.size W w') := Lib.hid fun d W hW => r18_At M d A cap W hn (sl_bel HS2.out hW)
  obtain ⟨N, hN⟩ : ∃ N : Nat, (U - F).toNat = N := ⟨_, rfl⟩
  have hN6 : N ≤ 100000 := by omega
  have HN := Lib.hid hN
  have HE := Lib.hid (And.intro hsb hw2)
  clear hsb hw2 hb2 hs hN
  go_enter Tryz.func45, Tryz.ntmps45
  go_upto_region 1 with fail
  rw [HE.out.1, HE.out.2]
  clear HE
  have S0 : w2.cell? ⟨sb, 0, none⟩ = some (.int .i64 F) := HBS.out.cell 0
  go_wp2
  clear S0
  go_loopw [5, 6, 7] (fun ov lv dv wr => ∃ k : Nat, k ≤ N ∧ dv = .int .i64 (F + k) ∧ (∃ la : Int, lv = .int .i64 la ∧ Hid ((rfN M F k).2 = la)) ∧ (∃ A c, ov = .slice A (rfN M F k).1.length c ∧ Hid (OwnAr w2.heap.size (.slice A (rfN M F k).1.length c) (rfN M F k).1 wr)) ∧ Hid (Below w2.heap.size w2 wr)) (fun _ _ dv _ => (F + (N : Int) - intOf dv).toNat)
  case atStart => exact ⟨0, Nat.zero_le _, by simp, ⟨-1, rfl, Lib.hid rfl⟩, ⟨none, 0, rfl, Lib.hid (Own.nil _)⟩, Lib.hid (Below.refl _ _)⟩
  case round =>
    obtain ⟨k, hk, rfl, ⟨la, rfl, HLA⟩, ⟨Ao, co, rfl, HOW⟩, HB⟩ := hrel
    obtain ⟨wo, hwo⟩ : ∃ x : World, x = wr := ⟨_, rfl⟩
    subst hwo
    obtain ⟨d, hd⟩ : ∃ d, F + (k : Int) = d := ⟨_, rfl⟩
    have S1 : wo.cell? ⟨sb, 1, none⟩ = some (.int .i64 U) := bCell HB.out (HBS.out.cell 1)
    by_cases hlt : k < N
    · have hN := HN.out
      have hd1 : d < U := by omega
      have hd2 : -4398046511104 ≤ d ∧ d ≤ 4398046511104 := by omega
      have hbd := rfN_bd M F k
      rw [HLA.out] at hbd
      obtain ⟨O, hO⟩ : ∃ O, (rfN M F k).1 = O := ⟨_, rfl⟩
      have HTK : Hid (rfN M F (k + 1) = rfS M (O, la) d (atM M d M.length)) := Lib.hid (by rw [rfN, hd, ← hO, ← HLA.out])
      rw [hO] at HOW hbd ⊢
      rw [hd]
      obtain ⟨hOl, hO0, hlaB⟩ := hbd
      have hOl2 : O.length ≤ 100000 := by omega
      have HA := Lib.hid (HAT.out d wo HB.out)
      have hqb : atM M d M.length = -1 ∨ ∃ j : Nat, atM M d M.length = j ∧ j < M.length := by
        rcases atM_bd M d M.length with h | ⟨j, h4, _, h5⟩
        · exact .inl h
        · exact .inr ⟨j, h4, h5⟩
      obtain ⟨q, hq⟩ : ∃ q, atM M d M.length = q := ⟨_, rfl⟩
      rw [hq] at HA HTK hqb
      have HDE := Lib.hid hd
      clear hq hO hd hN HLA
      go_wp2_with fail
      refine HA.out.mono ?_
      rintro e w3 ⟨rfl, hb3⟩
      have HO3 := Lib.hid (own_bel HOW.out hb3)
      have HB3 : Hid (Below w2.heap.size w2 w3) := Lib.hid (bTrans HB.out hb3)
      clear hb3 HA HOW HB S1
      rcases hqb with rfl | ⟨j, rfl, hj⟩
      · have HV : Hid (rfN M F (k + 1) = (O, -1)) := Lib.hid HTK.out
        go_wp2
        exact ⟨⟨k + 1, by omega, by rw [← HDE.out]; go_num, ⟨-1, rfl, Lib.hid (by rw [HV.out])⟩, by
          rw [HV.out]
          exact ⟨Ao, co, rfl, HO3⟩, HB3⟩, by have hde := HDE.out; simp [intOf]; omega⟩
      · obtain ⟨x, hx⟩ : ∃ x, M[j]? = some x := ⟨_, List.getElem?_eq_getElem hj⟩
        have hj0 : (0 : Int) ≤ (j : Int) := by omega
        by_cases hjl : (j : Int) = la
        · obtain ⟨Q, q, hQ⟩ : ∃ Q q, O = Q ++ [q] := by
            rcases O.eq_nil_or_concat with h | ⟨Q, q, h⟩
            · exact absurd h (hO0 (by omega))
            · exact ⟨Q, q, by rw [h, List.concat_eq_append]⟩
          subst hQ
          have HV : Hid (rfN M F (k + 1) = (Q ++ [⟨q.fr, d + 1, q.ki, q.pa, q.nn⟩], la)) := Lib.hid (by rw [HTK.out]; unfold rfS; rw [if_pos hj0, if_pos hjl, setTo_snoc, hjl])
          have hlen : (Q ++ [q]).length = Q.length + 1 := by simp
          rw [hlen] at HO3 hOl2 ⊢
          clear hlen HTK hO0 hOl hx
          obtain ⟨g, rfl, hg1, hg2, hc, hrow⟩ := lastAr HO3.out
          have D1 : w3.cell? ⟨g, Q.length * 5 + 1, none⟩ = some (.int .i64 q.to) := hc 1 _ rfl
          have F1 := World.ownsRow.frozenAt hrow (Q.length * 5 + 1)
          have HST : Hid (OwnAr w2.heap.size (.slice (some ⟨g, 0, none⟩) (Q.length + 1) co) (Q ++ [⟨q.fr, d + 1, q.ki, q.pa, q.nn⟩]) (w3.setCell ⟨g, Q.length * 5 + 1, none⟩ (.int .i64 (d + 1))) ∧ Below w2.heap.size w2 (w3.setCell ⟨g, Q.length * 5 + 1, none⟩ (.int .i64 (d + 1)))) := Lib.hid (by
            have hst := World.ownsRow.stored hrow (Q.length * 5 + 1) (.int .i64 (d + 1))
            rw [setLastAr] at hst
            exact ⟨ownAr_snoc hst.1, HB3.out.setCell (p := ⟨g, Q.length * 5 + 1, none⟩) hg1 _⟩)
          have hi1 : (Q.length : Int) < (Q.length : Int) + 1 := by omega
          have hi2 : Q.length < Q.length + 1 := by omega
          have hi3 : ¬ ((Q.length : Int) < 0) := by omega
          have hjq : ((j : Int) == la) = true := beq_iff_eq.2 hjl
          have hjg : decide ((0 : Int) ≤ (j : Int)) = true := decide_eq_true hj0
          clear hc hrow hg1 hg2 HO3 HB3 hjl
          go_wp2
          exact ⟨⟨k + 1, by omega, by rw [← HDE.out]; go_num, ⟨la, by first | rfl | (rw [← beq_iff_eq.1 hjq]), Lib.hid (by rw [HV.out])⟩, by
            rw [HV.out]
            exact slAr HST.out.1, Lib.hid HST.out.2⟩, by have hde := HDE.out; simp [intOf]; omega⟩
        · have HV : Hid (rfN M F (k + 1) = (O ++ [⟨d, d + 1, x.ki, x.pa, x.nn⟩], (j : Int))) := Lib.hid (by
            rw [HTK.out]
            unfold rfS mAt
            rw [if_pos hj0, if_neg hjl, Int.toNat_natCast, hx]
            rfl)
          obtain ⟨mb, mo, rfl, _, hat⟩ := HS2.out (by intro h; simp [h] at hj)
          have HRL : Hid (∀ W W', Below w2.heap.size w2 W → Below W.heap.size W W' → Below w2.heap.size w2 W') := Lib.hid fun _ _ h hb => bTrans h hb
          have HKC : Hid (∀ W, Below w2.heap.size w2 W → W.cell? ⟨mb, mo + j * 5, none⟩ = some (.int .i64 x.nn) ∧ W.cell? ⟨mb, mo + j * 5 + 3, none⟩ = some (.int .i64 x.ki) ∧ W.cell? ⟨mb, mo + j * 5 + 4, none⟩ = some (.int .i64 x.pa)) := Lib.hid fun W hW => ⟨bCell hW (hat j _ hx 0 _ rfl), bCell hW (hat j _ hx 3 _ rfl), bCell hW (hat j _ hx 4 _ rfl)⟩
          have HLN : Hid (O.length + 1 ≤ maxLen ∧ (O.length + 1) * 40 ≤ 140737488355328) := Lib.hid (by unfold maxLen; omega)
          obtain ⟨i0, hi0, hi1, hi2, hi3⟩ := info_parts arInfo
          have HJ0 := Lib.hid hi0
          have HJ1 := Lib.hid hi1
          have HJ2 := Lib.hid hi2
          have HJ3 := Lib.hid hi3
          have hjq : ((j : Int) == la) = false := beq_eq_false_iff_ne.2 hjl
          have hjg : decide ((0 : Int) ≤ (j : Int)) = true := decide_eq_true hj0
          have hjlt : (j : Int) < (M.length : Int) := by omega
          clear hi0 hi1 hi2 hi3 hat hx hjl HTK hO0 hOl hlaB
          go_upto_region 10 with fail
          obtain ⟨w9, hw9⟩ : ∃ z : World, z = w3 := ⟨_, rfl⟩
          subst hw9
          obtain ⟨mv, hmv⟩ : ∃ mv, Value.slice Ao O.length co = mv := ⟨_, rfl⟩
          rw [hmv] at HO3 ⊢
          have HR0 : Hid (Below w2.heap.size w2 w9.drew) := Lib.hid (bTrans HB3.out (bDrewN w9 1))
          have HOG : Hid (OwnAr w2.heap.size mv O w9.drew) := Lib.hid (own_bel HO3.out (bDrewN w9 1))
          have HRA : Hid (∀ W W', Below w2.heap.size w2 W → OwnAr w2.heap.size mv O W → W.grownBy W' mv.ownBlock → Below w2.heap.size w2 W') := Lib.hid fun _ _ h ho hg => belowAr h h.size ho hg
          refine wp_region_asgW (SPS [(11, (spGr w2.heap.size mv O)), (0, Sp.val (.slice (some ⟨mb, mo, none⟩) M.length cap)), (7, Sp.val (.int .i64 d)), (8, Sp.val (.int .i64 j)), (38, (spOr w2.heap.size mv O)), (39, Sp.val (.int .i64 d)), (40, Sp.val (.int .i64 d)), (41, Sp.val (.int .i64 (d + 1))), (42, Sp.val (.agg #[.int .i64 d, .int .i64 (d + 1)])), (43, Sp.val (.slice (some ⟨mb, mo, none⟩) M.length cap)), (44, Sp.val (.int .i64 j)), (45, Sp.val (.pointer (some ⟨mb, mo + j * 5, none⟩))), (46, Sp.val (.pointer (some ⟨mb, mo + j * 5 + 3, none⟩))), (47, Sp.val (.int .i64 x.ki)), (48, Sp.val (.slice (some ⟨mb, mo, none⟩) M.length cap)), (49, Sp.val (.int .i64 j)), (50, Sp.val (.pointer (some ⟨mb, mo + j * 5, none⟩))), (51, Sp.val (.pointer (some ⟨mb, mo + j * 5 + 4, none⟩))), (52, Sp.val (.int .i64 x.pa)), (53, Sp.val (.slice (some ⟨mb, mo, none⟩) M.length cap)), (54, Sp.val (.int .i64 j)), (55, Sp.val (.pointer (some ⟨mb, mo + j * 5, none⟩))), (56, Sp.val (.pointer (some ⟨mb, mo + j * 5, none⟩))), (57, Sp.val (.int .i64 x.nn)), (58, Sp.val (.agg #[.int .i64 d, .int .i64 (d + 1), .int .i64 x.ki, .int .i64 x.pa, .int .i64 x.nn])), (59, (spRow w2.heap.size 90 #[.int .i64 d, .int .i64 (d + 1), .int .i64 x.ki, .int .i64 x.pa, .int .i64 x.nn])), (60, (spOrE w2.heap.size (O ++ [⟨d, d + 1, x.ki, x.pa, x.nn⟩])))]) [(11, 22), (38, 22), (59, 22)] (fun W => Below w2.heap.size w2 W) 23 [38, 39, 40, 41, 42, 43, 44, 45, 46, 47, 48, 49, 50, 51, 52, 53, 54, 55, 56, 57, 58, 59, 60, 5] rfl (by rfl) (by kernel_rfl) (by kernel_rfl) (.assign (.tmp 60)) 5 (fun o ho => by cases ho; exact ⟨rfl, rfl, rfl⟩) (by kernel_rfl) (by rfl) ?_ ?_ (opsK_all ?_) ?_
          · exact HR0.out
          · exact sps_start (cons_all HOG.out (cons_all rfl (cons_all rfl (cons_all rfl (nil_all)))))
          · refine opsK_cons (by
             exact rel_nW (rel_iniW rfl rfl (fun a W hR hini hsp => by
                have e5 : a.eval (.tmp 5) = mv := (hini 5 (by kernel_rfl)).trans (by first | rfl | (go_simp; rfl) | go_simp)
                have h11 : OwnAr w2.heap.size mv O W := (hsp 11 (by kernel_rfl) (fun j hj => .inr (by rw [show j = 22 by simpa using hj]; kernel_rfl))).get rfl
                refine ⟨mv, ?_, sps rfl ⟨rfl, h11⟩⟩
                unfold execOp
                simp only [e5]
                go_simp))) ?_
            refine opsK_cons (by
             exact rel_nW (rel_sW HRL.out [11] (fun w1 hR1 => opOk_move rfl rfl (.inl rfl) (by kernel_rfl) (fun _ _ h => sps rfl (h.get rfl))) (by kernel_rfl) (by rfl))) ?_
            refine opsK_cons (by
             exact rel_nW (rel_sW HRL.out [11] (fun w1 hR1 => opOk_move rfl rfl (.inl rfl) (by kernel_rfl) (fun _ _ h => sps rfl (h.get rfl))) (by kernel_rfl) (by rfl))) ?_
            refine opsK_cons (by
             exact rel_nW (rel_sW HRL.out [11] (fun w1 hR1 => opOk_run rfl (.inl rfl) (fun a W hW hsp => by
                have e40 : a.eval (.tmp 40) = .int .i64 d := (hsp 40 (by kernel_rfl)).get rfl
                refine ⟨.int .i64 (d + 1), ?_, sps rfl rfl⟩
                unfold execOp
                simp only [e40]
                go_simp
                exact IntWalk.i64_in _ (by omega))) (by kernel_rfl) (by rfl))) ?_
            refine opsK_cons (by
             exact rel_nW (rel_sW HRL.out [11] (fun w1 hR1 => opOk_run rfl (.inl rfl) (fun a W hW hsp => by
                have f39 : a.tmps[39]?.getD undef = .int .i64 d := by rw [← Array.getD_eq_getD_getElem?]; exact (hsp 39 (by kernel_rfl)).get rfl
                have f41 : a.tmps[41]?.getD undef = .int .i64 (d + 1) := by rw [← Array.getD_eq_getD_getElem?]; exact (hsp 41 (by kernel_rfl)).get rfl
                refine ⟨.agg #[.int .i64 d, .int .i64 (d + 1)], ?_, sps rfl rfl⟩
                unfold execOp
                go_simp)) (by kernel_rfl) (by rfl))) ?_
            refine opsK_cons (by
             exact rel_nW (rel_sW HRL.out [11] (fun w1 hR1 => opOk_move rfl rfl (.inl rfl) (by kernel_rfl) (fun _ _ h => sps rfl (h.get rfl))) (by kernel_rfl) (by rfl))) ?_
            refine opsK_cons (by
             exact rel_nW (rel_sW HRL.out [11] (fun w1 hR1 => opOk_move rfl rfl (.inl rfl) (by kernel_rfl) (fun _ _ h => sps rfl (h.get rfl))) (by kernel_rfl) (by rfl))) ?_
            refine opsK_cons (by
             exact rel_nW (rel_sW HRL.out [11] (fun w1 hR1 => opOk_run rfl (.inl rfl) (fun a W hW hsp => by
                have e43 : a.eval (.tmp 43) = .slice (some ⟨mb, mo, none⟩) M.length cap := (hsp 43 (by kernel_rfl)).get rfl
                have e44 : a.eval (.tmp 44) = .int .i64 j := (hsp 44 (by kernel_rfl)).get rfl
                refine ⟨.pointer (some ⟨mb, mo + j * 5, none⟩), ?_, sps rfl rfl⟩
                unfold execOp
                simp only [e43, e44]
                go_simp)) (by kernel_rfl) (by rfl))) ?_
            refine opsK_cons (by
             exact rel_nW (rel_sW HRL.out [11] (fun w1 hR1 => opOk_run rfl (.inl rfl) (fun a W hW hsp => by
                have e45 : a.eval (.tmp 45) = .pointer (some ⟨mb, mo + j * 5, none⟩) := (hsp 45 (by kernel_rfl)).get rfl
                refine ⟨.pointer (some ⟨mb, mo + j * 5 + 3, none⟩), ?_, sps rfl rfl⟩
                unfold execOp
                simp only [e45]
                go_simp)) (by kernel_rfl) (by rfl))) ?_
            refine opsK_cons (by
             exact rel_nW (rel_sW HRL.out [11] (fun w1 hR1 => opOk_load (p := ⟨mb, mo + j * 5 + 3, none⟩) rfl rfl (.inl rfl) (by kernel_rfl) (fun _ _ h => h.get rfl) (fun W hW => by
                obtain ⟨k0, k3, k4⟩ := HKC.out _ (HRL.out _ _ hR1 hW)
                exact ⟨.int .i64 x.ki, by go_simp, sps rfl rfl⟩)) (by kernel_rfl) (by rfl))) ?_
            refine opsK_cons (by
             exact rel_nW (rel_sW HRL.out [11] (fun w1 hR1 => opOk_move rfl rfl (.inl rfl) (by kernel_rfl) (fun _ _ h => sps rfl (h.get rfl))) (by kernel_rfl) (by rfl))) ?_
            refine opsK_cons (by
             exact rel_nW (rel_sW HRL.out [11] (fun w1 hR1 => opOk_move rfl rfl (.inl rfl) (by kernel_rfl) (fun _ _ h => sps rfl (h.get rfl))) (by kernel_rfl) (by rfl))) ?_
            refine opsK_cons (by
             exact rel_nW (rel_sW HRL.out [11] (fun w1 hR1 => opOk_run rfl (.inl rfl) (fun a W hW hsp => by
                have e48 : a.eval (.tmp 48) = .slice (some ⟨mb, mo, none⟩) M.length cap := (hsp 48 (by kernel_rfl)).get rfl
                have e49 : a.eval (.tmp 49) = .int .i64 j := (hsp 49 (by kernel_rfl)).get rfl
                refine ⟨.pointer (some ⟨mb, mo + j * 5, none⟩), ?_, sps rfl rfl⟩
                unfold execOp
                simp only [e48, e49]
                go_simp)) (by kernel_rfl) (by rfl))) ?_
            refine opsK_cons (by
             exact rel_nW (rel_sW HRL.out [11] (fun w1 hR1 => opOk_run rfl (.inl rfl) (fun a W hW hsp => by
                have e50 : a.eval (.tmp 50) = .pointer (some ⟨mb, mo + j * 5, none⟩) := (hsp 50 (by kernel_rfl)).get rfl
                refine ⟨.pointer (some ⟨mb, mo + j * 5 + 4, none⟩), ?_, sps rfl rfl⟩
                unfold execOp
                simp only [e50]
                go_simp)) (by kernel_rfl) (by rfl))) ?_
            refine opsK_cons (by
             exact rel_nW (rel_sW HRL.out [11] (fun w1 hR1 => opOk_load (p := ⟨mb, mo + j * 5 + 4, none⟩) rfl rfl (.inl rfl) (by kernel_rfl) (fun _ _ h => h.get rfl) (fun W hW => by
                obtain ⟨k0, k3, k4⟩ := HKC.out _ (HRL.out _ _ hR1 hW)
                exact ⟨.int .i64 x.pa, by go_simp, sps rfl rfl⟩)) (by kernel_rfl) (by rfl))) ?_
            refine opsK_cons (by
             exact rel_nW (rel_sW HRL.out [11] (fun w1 hR1 => opOk_move rfl rfl (.inl rfl) (by kernel_rfl) (fun _ _ h => sps rfl (h.get rfl))) (by kernel_rfl) (by rfl))) ?_
            refine opsK_cons (by
             exact rel_nW (rel_sW HRL.out [11] (fun w1 hR1 => opOk_move rfl rfl (.inl rfl) (by kernel_rfl) (fun _ _ h => sps rfl (h.get rfl))) (by kernel_rfl) (by rfl))) ?_
            refine opsK_cons (by
             exact rel_nW (rel_sW HRL.out [11] (fun w1 hR1 => opOk_run rfl (.inl rfl) (fun a W hW hsp => by
                have e53 : a.eval (.tmp 53) = .slice (some ⟨mb, mo, none⟩) M.length cap := (hsp 53 (by kernel_rfl)).get rfl
                have e54 : a.eval (.tmp 54) = .int .i64 j := (hsp 54 (by kernel_rfl)).get rfl
                refine ⟨.pointer (some ⟨mb, mo + j * 5, none⟩), ?_, sps rfl rfl⟩
                unfold execOp
                simp only [e53, e54]
                go_simp)) (by kernel_rfl) (by rfl))) ?_
            refine opsK_cons (by
             exact rel_nW (rel_sW HRL.out [11] (fun w1 hR1 => opOk_run rfl (.inl rfl) (fun a W hW hsp => by
                have e55 : a.eval (.tmp 55) = .pointer (some ⟨mb, mo + j * 5, none⟩) := (hsp 55 (by kernel_rfl)).get rfl
                refine ⟨.pointer (some ⟨mb, mo + j * 5, none⟩), ?_, sps rfl rfl⟩
                unfold execOp
                simp only [e55]
                go_simp)) (by kernel_rfl) (by rfl))) ?_
            refine opsK_cons (by
             exact rel_nW (rel_sW HRL.out [11] (fun w1 hR1 => opOk_load (p := ⟨mb, mo + j * 5, none⟩) rfl rfl (.inl rfl) (by kernel_rfl) (fun _ _ h => h.get rfl) (fun W hW => by
                obtain ⟨k0, k3, k4⟩ := HKC.out _ (HRL.out _ _ hR1 hW)
                exact ⟨.int .i64 x.nn, by go_simp, sps rfl rfl⟩)) (by kernel_rfl) (by rfl))) ?_
            refine opsK_cons (by
             exact rel_nW (rel_sW HRL.out [11] (fun w1 hR1 => opOk_run rfl (.inl rfl) (fun a W hW hsp => by
                have f42 : a.tmps[42]?.getD undef = .agg #[.int .i64 d, .int .i64 (d + 1)] := by rw [← Array.getD_eq_getD_getElem?]; exact (hsp 42 (by kernel_rfl)).get rfl
                have f47 : a.tmps[47]?.getD undef = .int .i64 x.ki := by rw [← Array.getD_eq_getD_getElem?]; exact (hsp 47 (by kernel_rfl)).get rfl
                have f52 : a.tmps[52]?.getD undef = .int .i64 x.pa := by rw [← Array.getD_eq_getD_getElem?]; exact (hsp 52 (by kernel_rfl)).get rfl
                have f57 : a.tmps[57]?.getD undef = .int .i64 x.nn := by rw [← Array.getD_eq_getD_getElem?]; exact (hsp 57 (by kernel_rfl)).get rfl
                refine ⟨.agg #[.int .i64 d, .int .i64 (d + 1), .int .i64 x.ki, .int .i64 x.pa, .int .i64 x.nn], ?_, sps rfl rfl⟩
                unfold execOp
                go_simp)) (by kernel_rfl) (by rfl))) ?_
            refine opsK_cons (by
             exact rel_nW (rel_sW HRL.out [11] (fun w1 hR1 => opOk_new rfl (.inl rfl) (fun a W hW hsp => by
                have e58 : a.eval (.tmp 58) = .agg #[.int .i64 d, .int .i64 (d + 1), .int .i64 x.ki, .int .i64 x.pa, .int .i64 x.nn] := (hsp 58 (by kernel_rfl)).get rfl
                refine ⟨_, .cells #[.int .i64 d, .int .i64 (d + 1), .int .i64 x.ki, .int .i64 x.pa, .int .i64 x.nn] 90, ?_, sps rfl ⟨W.heap.size, rfl, (HRL.out _ _ hR1 hW).size, Bk.new W _ _⟩⟩
                unfold execOp
                simp only [List.map_toArray, List.map_cons, List.map_nil, e58]
                go_simp)) (by kernel_rfl) (by rfl))) ?_
            refine opsK_cons (by
             exact rel_nW (rel_appW rfl rfl (cons_all (.inr (.inr (.head _))) (cons_all (.inl (Sp.pure_valW _)) (cons_all (.inl (Sp.pure_valW _)) (cons_all (.inl (Sp.pure_valW _)) (cons_all (.inr (.inr (.tail _ (.head _)))) (cons_all (.inl (Sp.pure_valW _)) (cons_all (.inl (Sp.pure_valW _)) (cons_all (.inl (Sp.pure_valW _)) (cons_all (.inl (Sp.pure_valW _)) (cons_all (.inl (Sp.pure_valW _)) (cons_all (.inl (Sp.pure_valW _)) (cons_all (.inl (Sp.pure_valW _)) (cons_all (.inl (Sp.pure_valW _)) (cons_all (.inl (Sp.pure_valW _)) (cons_all (.inl (Sp.pure_valW _)) (cons_all (.inl (Sp.pure_valW _)) (cons_all (.inl (Sp.pure_valW _)) (cons_all (.inl (Sp.pure_valW _)) (cons_all (.inl (Sp.pure_valW _)) (cons_all (.inl (Sp.pure_valW _)) (cons_all (.inl (Sp.pure_valW _)) (cons_all (.inl (Sp.pure_valW _)) (cons_all (.inl (Sp.pure_valW _)) (cons_all (.inl (Sp.pure_valW _)) (cons_all (.inl (Sp.pure_valW _)) (cons_all (.inr (.inr (.tail _ (.tail _ (.head _))))) (cons_all (.inr (.inl rfl)) (nil_all)))))))))))))))))))))))))))) (fun a W hR hsp => by
                obtain ⟨e38, ho38⟩ := (hsp 38 (by kernel_rfl) (fun j hj => .inl (by simpa using hj))).get rfl
                obtain ⟨b59, e59, hb59, hk59⟩ := (hsp 59 (by kernel_rfl) (fun j hj => .inl (by simpa using hj))).get rfl
                refine wp_append_at (.tmp 38) (.tmp 59) 87 rfl w2.heap.size 90 i0 _ 5 40 Tryz.underlying87 HJ0.out HJ1.out HJ2.out HJ3.out rfl (by decide) _ _ _ e38 ho38 ⟨b59, 0, none⟩ 1 1 (encAb ⟨d, d + 1, x.ki, x.pa, x.nn⟩) e59 rfl (news5 hk59) (encAb_one _) (HLN.out.1) (HLN.out.2) hR.size ?_
                intro v' W' hown' hgr hat
                exact ⟨v', rfl, HRA.out _ _ hR ho38 hgr, sps rfl (ownAr_add hown')⟩))) ?_
            refine opsK_cons (by
             exact rel_lW) ?_
            exact opsK_nil
          · intro oL hoL hdL vs W hR hsp hini
            have z60 := (hsp 60 (by decide) (by simp)).get rfl
            have HEND := Lib.hid (And.intro hR z60)
            clear hR hsp hini
            obtain ⟨A9, c9, e9, _, _⟩ := own_sl encAb_len z60
            clear z60
            refine wp_assign_end hoL ?_
            rw [hdL]
            simp only [putAll]
            go_simp
            try rw [e9] at HEND
            try simp only [e9]
            go_step
            go_wp2
            exact ⟨⟨k + 1, by omega, by rw [← HDE.out]; go_num, ⟨_, rfl, Lib.hid (by rw [HV.out])⟩, by
              rw [HV.out]
              have hll : (O ++ [(⟨d, d + 1, x.ki, x.pa, x.nn⟩ : Ab)]).length = O.length + 1 := by simp
              have h1 := HEND.out.2
              simp only [hll] at h1 ⊢
              exact ⟨A9, c9, rfl, Lib.hid h1⟩, Lib.hid HEND.out.1⟩, by have hde := HDE.out; simp [intOf]; omega⟩
    · obtain rfl : k = N := by omega
      have HFN : Hid (Below w.heap.size w wo) := Lib.hid (bTrans HB2.out HB.out)
      have hge : ¬ F + (k : Int) < U := by have := HN.out; omega
      obtain ⟨O, hO⟩ : ∃ O, (rfN M F k).1 = O := ⟨_, rfl⟩
      have HOO : Hid ((rfN M F (U - F).toNat).1 = O) := Lib.hid (by rw [HN.out, hO])
      rw [hO] at HOW ⊢
      clear hO hlt HLA HB
      go_wp2
      go_ret
      exact Of18.of HOO.out rfl HOW.out HFN.out
end Go.Proofs.YtlgoaohklggcdaaGreatDoor

/- Merged from: Tm6 Tm7 Tm8 Tm9. -/
import Derived.Test.YtlgoaohklggcdaaGreatDoorTmb
import Derived.Maps.OwnOps
import Derived.Maps.Views
import Derived.Maps.RangeWalk
import Derived.Laws.StructEq
namespace Go.Proofs.YtlgoaohklggcdaaGreatDoor
open Go.RowKit Go.Sort Go.WideMaps Go.Maps Go.WideElems

def Ls.at_ (X : Ls) : Nat → List Kn
  | 0 => X.a
  | 1 => X.b
  | 2 => X.c
  | 3 => X.d
  | _ => X.e
def lsOf (L : List Fa) (pe : Int) : Ls := ⟨chosen (ofPK pe 1) L L.length, chosen (ofPK pe 2) L L.length, chosen (ofPK pe 3) L L.length, chosen (ofPK pe 4) L L.length, chosen (ofPK pe 5) L L.length⟩
theorem lsOf_at (L : List Fa) (pe : Int) {i : Nat} (h : i < 5) : (lsOf L pe).at_ i = chosen (ofPK pe ((i : Int) + 1)) L L.length := by
  have : i = 0 ∨ i = 1 ∨ i = 2 ∨ i = 3 ∨ i = 4 := by omega
  rcases this with rfl | rfl | rfl | rfl | rfl <;> rfl
abbrev heldR : Value → Option (DataW Value × List MemPlace) := fun v => some (.held v, [])
abbrev HM (w : World) (b n : Nat) (D : DataW Value) : Prop := w.ownsMap Tryz.prog 3 heldR b n D
theorem keyI : Keyed Tryz.prog 3 := int_keyed Tryz.underlying3
/-- The first so many lines, under their kinds. -/
def lnD (V : Nat → Value) : Nat → DataW Value
  | 0 => .map []
  | k + 1 => (lnD V k).put (.int .i64 ((k : Int) + 1)) (.held (V k))
theorem lnD_congr {V U : Nat → Value} : ∀ {k : Nat}, (∀ i, i < k → V i = U i) → lnD V k = lnD U k
  | 0, _ => rfl
  | k + 1, h => by rw [lnD, lnD, lnD_congr (k := k) fun i hi => h i (by omega), h k (by omega)]
theorem lnD_map (V : Nat → Value) : ∀ k, IsMap (lnD V k)
  | 0 => isMap_empty
  | k + 1 => (lnD_map V k).put _ _
theorem lnD_at (V : Nat → Value) (z : DataW Value) : ∀ {k i : Nat}, i < k → (lnD V k).atKey (.int .i64 ((i : Int) + 1)) z = .held (V i)
  | 0, i, h => by omega
  | k + 1, i, h => by
    rw [lnD]
    by_cases e : i = k
    · subst e
      exact atKey_put_same (lnD_map V i) (by trivial) _ _
    · rw [atKey_put_other (by intro h2; injection h2 with _ h2; omega)]
      exact lnD_at V z (by omega)
theorem lnD_has (V : Nat → Value) : ∀ {k : Nat} {x : Int}, has (lnD V k) (.int .i64 x) = true → ∃ i : Nat, i < k ∧ x = (i : Int) + 1
  | 0, x, h => by simp [lnD, has] at h
  | k + 1, x, h => by
    rw [lnD] at h
    by_cases e : x = (k : Int) + 1
    · exact ⟨k, by omega, e⟩
    · rw [has_put_other (by intro h2; injection h2 with _ h2; exact e h2)] at h
      obtain ⟨i, h1, h2⟩ := lnD_has V h
      exact ⟨i, by omega, h2⟩
/-- Rows of cells stay while a map is written. -/
theorem sl_map {α : Type} {enc : α → List Value} {k mb n : Nat} {D : DataW Value} {w w' : World} {A : Option Addr} {L : List α} (h : Sl enc k w w.heap.size A L) (he : ∀ x : α, enc x ≠ []) (hm : HM w mb n D) (hg : w.grownBy w' (some mb)) : Sl enc k w' w'.heap.size A L := fun hl => by
  obtain ⟨b, off, e, hlt, hc⟩ := h hl
  obtain ⟨es, ck, hb, _⟩ := hm
  have hne : b ≠ mb := by
    rintro rfl
    obtain ⟨x, hx⟩ : ∃ x, L[0]? = some x := ⟨_, List.getElem?_eq_getElem (List.length_pos_iff.2 hl)⟩
    obtain ⟨u, hu⟩ : ∃ u, (enc x)[0]? = some u := ⟨_, List.getElem?_eq_getElem (List.length_pos_iff.2 (he x))⟩
    have := hc 0 x hx 0 u hu
    unfold World.cell? at this
    simp only [hb] at this
    simp at this
  exact ⟨b, off, e, Nat.lt_of_lt_of_le hlt hg.size, fun i x hx j u hu => by
    have h2 := hc i x hx j u hu
    have h3 : w'.heap[b]? = w.heap[b]? := hg.block b hlt (by intro h4; injection h4 with h4; exact hne h4)
    unfold World.cell? at h2 ⊢
    simp only [h3]
    exact h2⟩
theorem encK_ne (x : Kn) : encK x ≠ [] := by unfold encK; simp
theorem line_map {X : List Kn} {v : Value} {mb n : Nat} {D : DataW Value} {w w' : World} (h : (spLine X).p v w) (hm : HM w mb n D) (hg : w.grownBy w' (some mb)) : (spLine X).p v w' := by
  obtain ⟨A, c, e, hs⟩ := h
  exact ⟨A, c, e, sl_map hs encK_ne hm hg⟩
theorem line_bel {X : List Kn} {v : Value} {w w' : World} (h : (spLine X).p v w) (hb : Below w.heap.size w w') : (spLine X).p v w' := by
  obtain ⟨A, c, e, hs⟩ := h
  exact ⟨A, c, e, sl_bel hs hb⟩
/-- A map of five lines. -/
structure LinesAt (X : Ls) (mb : Nat) (V : Nat → Value) (w : World) : Prop where
  map : HM w mb 5 (lnD V 5)
  line : ∀ i, i < 5 → (spLine (X.at_ i)).p (V i) w
theorem hm_bel {w w' : World} {mb n : Nat} {D : DataW Value} (h : HM w mb n D) (hb : Below w.heap.size w w') : HM w' mb n D := h.kept (row := none) ⟨hb.os, hb.tape, hb.output, hb.size, fun i hi _ => hb.block i hi⟩ (by simp)
theorem LinesAt.below {X : Ls} {mb : Nat} {V : Nat → Value} {w w' : World} (h : LinesAt X mb V w) (hb : Below w.heap.size w w') : LinesAt X mb V w' := ⟨hm_bel h.map hb, fun i hi => line_bel (h.line i hi) hb⟩
theorem bk_bel {g : Nat} {t : TypeId} {cs : Array Value} {w w' : World} (h : Bk g t cs w) (hb : Below w.heap.size w w') : Bk g t cs w' := (hb.block g h.lt).trans h
set_option maxHeartbeats 4000000 in
set_option maxRecDepth 100000 in
theorem tm_lines (L : List Fa) (AV : Option Addr) (cV : Nat) (pe : Int) (w : World) (hn : L.length ≤ 4096) (hs : SlF w AV L) :
    Calls Tryz.prog 56 #[.agg #[.slice AV L.length cV], .int .u32 pe] w fun e w' => ∃ mb V, e = .returned (.map (some mb)) ∧ LinesAt (lsOf L pe) mb V w' ∧ Below w.heap.size w w' := by
  obtain ⟨vb, hvb⟩ : ∃ x, w.heap.size = x := ⟨_, rfl⟩
  obtain ⟨mb, hmb⟩ : ∃ x, vb + 1 = x := ⟨_, rfl⟩
  obtain ⟨kb, hkb⟩ : ∃ x, mb + 1 = x := ⟨_, rfl⟩
  obtain ⟨w2, hw2⟩ : ∃ x, ((w.alloc (.cells #[.slice AV L.length cV] 27)).alloc (.map #[] 0)).alloc (.cells #[.int .i64 1, .int .i64 2, .int .i64 3, .int .i64 4, .int .i64 5] 3) = x := ⟨_, rfl⟩
  have g1 : Grows w w2 := by rw [← hw2]; exact ((Grows.of_alloc _ _).alloc _).alloc _
  have k1 : Bk vb 27 #[.slice AV L.length cV] w2 := by rw [← hw2, ← hvb]; exact ((Bk.new _ _ _).grows (.of_alloc _ _)).grows (.of_alloc _ _)
  have k3 : Bk kb 3 #[.int .i64 1, .int .i64 2, .int .i64 3, .int .i64 4, .int .i64 5] w2 := by
    have := Bk.new ((w.alloc (.cells #[.slice AV L.length cV] 27)).alloc (.map #[] 0)) 3 #[.int .i64 1, .int .i64 2, .int .i64 3, .int .i64 4, .int .i64 5]
    rw [hw2] at this
    have e1 : ((w.alloc (.cells #[.slice AV L.length cV] 27)).alloc (.map #[] 0)).heap.size = kb := by simp; omega
    rwa [e1] at this
  have k2 : HM w2 mb 0 (.map []) := by
    have := World.ownsMap_made (H := Value) (w.alloc (.cells #[.slice AV L.length cV] 27)) Tryz.prog 3 heldR
    have e1 : (w.alloc (.cells #[.slice AV L.length cV] 27)).heap.size = mb := by simp; omega
    rw [e1] at this
    rw [← hw2]
    exact this.alloc _
  have HMW : Hid (w.heap.size ≤ mb ∧ vb ≠ mb ∧ kb ≠ mb) := Lib.hid (by omega)
  have HG := Lib.hid g1
  have HK1 := Lib.hid k1
  have HK3 := Lib.hid k3
  have HK2 := Lib.hid k2
  have HSL : Hid (∀ W, Below w.heap.size w W → SlF W AV L) := Lib.hid fun W hW => hs.below hW
  have HLN := Lib.hid hn
  have hmm := @run_makeMap Tryz.prog
  have HE2 := Lib.hid (And.intro hvb (And.intro hmb (And.intro hkb hw2)))
  clear hvb hmb hkb hw2 k1 k2 k3 g1 hs hn
  go_enter Tryz.func56, Tryz.ntmps56
  go_upto_region 3 with fail
  simp only [HE2.out.1, HE2.out.2.1, HE2.out.2.2.1, HE2.out.2.2.2]
  clear HE2 hmm
  go_loopw [11] (fun iv wr => ∃ (k : Nat) (V : Nat → Value), k ≤ 5 ∧ iv = .int .i64 k ∧ Hid (HM wr mb k (lnD V k)) ∧ Hid (∀ i, i < k → (spLine ((lsOf L pe).at_ i)).p (V i) wr) ∧ Hid (Below w.heap.size w wr) ∧ Hid (Bk vb 27 #[.slice AV L.length cV] wr ∧ Bk kb 3 #[.int .i64 1, .int .i64 2, .int .i64 3, .int .i64 4, .int .i64 5] wr)) (fun iv _ => 5 - (intOf iv).toNat)
  case atStart => exact ⟨0, fun _ => undef, Nat.zero_le _, rfl, HK2, Lib.hid (fun i hi => absurd hi (Nat.not_lt_zero _)), Lib.hid HG.out.below, Lib.hid ⟨HK1.out, HK3.out⟩⟩
  case round =>
    obtain ⟨k, V, hk, rfl, HM0, HL, HB, HK⟩ := hrel
    by_cases hlt : k < 5
    · obtain ⟨kd, hkd⟩ : ∃ z, (k : Int) + 1 = z := ⟨_, rfl⟩
      have C0 : wr.cell? ⟨kb, k, none⟩ = some (.int .i64 kd) := by
        rw [HK.out.2.cell k, ← hkd]
        have : k = 0 ∨ k = 1 ∨ k = 2 ∨ k = 3 ∨ k = 4 := by omega
        rcases this with rfl | rfl | rfl | rfl | rfl <;> rfl
      have C1 : wr.cell? ⟨vb, 0, none⟩ = some (.slice AV L.length cV) := HK.out.1.cell 0
      obtain ⟨X, hX⟩ : ∃ X, (lsOf L pe).at_ k = X := ⟨_, rfl⟩
      have hXl : X.length ≤ 4096 := by rw [← hX, lsOf_at L pe hlt]; exact Nat.le_trans (chosen_len _ _ _) HLN.out
      have HFA : Hid (Calls Tryz.prog 50 #[.agg #[.slice AV L.length cV], .int .u32 pe, .int .i64 kd] wr fun e w' => ∃ A c, e = .returned (.slice A X.length c) ∧ Below wr.heap.size wr w' ∧ Sl encK 9 w' w'.heap.size A X) := Lib.hid ((vi_Facts L AV cV pe kd wr HLN.out (HSL.out wr HB.out)).mono fun e w' ⟨⟨v, h1, h2⟩, h3⟩ => by
        rw [← hkd, ← lsOf_at L pe hlt, hX] at h2
        obtain ⟨A, c, rfl, _, h4⟩ := own_sl encK_len h2
        exact ⟨A, c, h1, h3, h4⟩)
      have hkey : keyOf Tryz.prog 3 (.int .i64 kd) = some (.int .i64 kd) := keyOf_int_mk Tryz.underlying3 (by
        have : kd = 1 ∨ kd = 2 ∨ kd = 3 ∨ kd = 4 ∨ kd = 5 := by omega
        rcases this with rfl | rfl | rfl | rfl | rfl <;> rfl)
      have HKY := Lib.hid hkey
      have HX := Lib.hid hX
      have HKD := Lib.hid hkd
      clear hkey hX hkd
      go_wp2_with fail
      refine HFA.out.mono ?_
      rintro e w3 ⟨A3, c3, rfl, hb3, hs3⟩
      have HB3 := Lib.hid hb3
      have HS3 := Lib.hid hs3
      clear hb3 hs3 HFA C0 C1
      go_wp2_with fail
      refine (li_Of X A3 c3 w3 (by omega) HS3.out).mono ?_
      rintro e w4 ⟨⟨A4, c4, rfl, ho4⟩, hb4⟩
      have HL4 : Hid ((spLine X).p (.agg #[.slice A4 X.length c4]) w4) := Lib.hid (spLine_of ho4)
      have HB4 : Hid (Below wr.heap.size wr w4) := Lib.hid (bTrans HB3.out hb4)
      have HM4 : Hid (HM w4 mb k (lnD V k)) := Lib.hid (hm_bel HM0.out HB4.out)
      clear hb4 ho4 HB3 HS3
      go_wp2_with (at_mapUpdate; refine wpList_mapUpdate_own _ rfl _ _ _ 130 rfl 3 133 keyI Tryz.underlying130 heldR mb k _ rfl HM4.out (by unfold maxLen; omega) _ _ _ rfl rfl HKY.out _ [] rfl ?_)
      intro w5 hm5 hg5
      have HB5 : Hid (Below w.heap.size w w5) := Lib.hid ((HB.out.trans (HB4.out.mono HB.out.size)).grown hg5 (Nat.le_trans HB.out.size HB4.out.size) (fun j hj => by cases hj; exact HMW.out.1))
      have HK5 : Hid (Bk vb 27 #[.slice AV L.length cV] w5 ∧ Bk kb 3 #[.int .i64 1, .int .i64 2, .int .i64 3, .int .i64 4, .int .i64 5] w5) := Lib.hid ⟨(bk_bel HK.out.1 HB4.out).grownBy hg5 (by intro h; injection h with h; exact HMW.out.2.1 h), (bk_bel HK.out.2 HB4.out).grownBy hg5 (by intro h; injection h with h; exact HMW.out.2.2 h)⟩
      have HV : Hid (∀ i, i < k → (fun i => if i = k then Value.agg #[.slice A4 X.length c4] else V i) i = V i) := Lib.hid fun i hi => if_neg (by omega)
      have HM5 : Hid (HM w5 mb (k + 1) (lnD (fun i => if i = k then Value.agg #[.slice A4 X.length c4] else V i) (k + 1))) := Lib.hid (by
        rw [lnD, lnD_congr HV.out, HKD.out]
        simp only [if_pos]
        exact hm5)
      have HL5 : Hid (∀ i, i < k + 1 → (spLine ((lsOf L pe).at_ i)).p ((fun i => if i = k then Value.agg #[.slice A4 X.length c4] else V i) i) w5) := Lib.hid fun i hi => by
        by_cases he : i = k
        · subst he
          simp only [if_pos]
          rw [HX.out]
          exact line_map HL4.out HM4.out hg5
        · rw [HV.out i (by omega)]
          exact line_map (line_bel (HL.out i (by omega)) HB4.out) HM4.out hg5
      clear hm5 hg5
      go_wp2
      exact ⟨⟨k + 1, _, by omega, by go_num, HM5, HL5, HB5, HK5⟩, by simp [intOf]; omega⟩
    · obtain rfl : k = 5 := by omega
      go_wp2
      go_ret
      exact ⟨mb, V, rfl, ⟨HM0.out, HL.out⟩, HB.out⟩
end Go.Proofs.YtlgoaohklggcdaaGreatDoor

namespace Go.Proofs.YtlgoaohklggcdaaGreatDoor
open Go.RowKit Go.Sort Go.WideMaps Go.Maps Go.WideElems

def updT (i : Nat) (v : Int × Int × ByteArray) (t : Td) : Td := match i with
  | 0 => { t with em := v.2.1 == 1 }
  | 1 => { t with sa := v.2.1 }
  | 2 => { t with pa := v.2.1 }
  | 3 => { t with h := fun i => (weekV (ls v.2.2)).getD i 0 }
  | _ => { t with co := v.2.2 }
def selT (q : Int) (a b : Td) : Td := if 0 ≤ q then a else b
def setT (X : Ls) (d : Int) (i : Nat) (t : Td) : Td := selT (q_ (X.at_ i) d) (updT i (valL (X.at_ i) (q_ (X.at_ i) d)) t) t
def t0T : Td := ⟨0, 0, false, 0, 1000000, fun i => ([480, 480, 480, 480, 480, 0, 0] : List Int).getD i 0, ⟨#[102, 105, 114, 109, 58, 49]⟩⟩
theorem setT_on (X : Ls) (d : Int) : setT X d 4 (setT X d 3 (setT X d 2 (setT X d 1 (setT X d 0 t0T)))) = onX X d := by
  unfold onX setT selT
  simp only [Ls.at_, updT, t0T]
  split <;> split <;> split <;> split <;> split <;> rfl
theorem zeroLn (w : World) : (zeroValue 133).run Tryz.prog w = .ok (.agg #[.slice none 0 0]) w := by kernel_rfl
set_option maxHeartbeats 4000000 in
theorem on_set (X : Ls) (mb : Nat) (V : Nat → Value) (i : Nat) (d kd : Int) (n lb db tb : Nat) (t t' : Td) (w : World) (hi : i < 5) (hkd : kd = (i : Int) + 1) (hX : (X.at_ i).length ≤ 1000000) (hm : LinesAt X mb V w)
    (hl : w.cell? ⟨lb, 0, none⟩ = some (.map (some mb))) (hd : w.cell? ⟨db, 0, none⟩ = some (.int .i64 d)) (ht : BkT tb t w)
    (hen : ∀ args w, (callFunc n args).run Tryz.prog w = .ok (.enter n args) w)
    (hcl : ∀ W, BkT tb t W → Calls Tryz.prog n #[.agg #[.int .i64 (valL (X.at_ i) (q_ (X.at_ i) d)).1, .int .i64 (valL (X.at_ i) (q_ (X.at_ i) d)).2.1, .string (valL (X.at_ i) (q_ (X.at_ i) d)).2.2], .pointer (some ⟨tb, 0, none⟩)] W fun e w' => e = .returned (.tuple #[]) ∧ BkT tb t' w' ∧ W.grownBy w' (some tb)) :
    Calls Tryz.prog 101 #[.int .i64 kd, .func (.func n) #[] #[.pointer (some ⟨tb, 0, none⟩)], .pointer (some ⟨lb, 0, none⟩), .pointer (some ⟨db, 0, none⟩)] w fun e w' => e = .returned (.tuple #[]) ∧ BkT tb (selT (q_ (X.at_ i) d) t' t) w' ∧ w.grownBy w' (some tb) := by
  have hkey : keyOf Tryz.prog 3 (.int .i64 kd) = some (.int .i64 kd) := keyOf_int_mk Tryz.underlying3 (by
    have : kd = 1 ∨ kd = 2 ∨ kd = 3 ∨ kd = 4 ∨ kd = 5 := by omega
    rcases this with rfl | rfl | rfl | rfl | rfl <;> rfl)
  obtain ⟨v, ps, hrun, hv⟩ := hm.map.lookup keyI Tryz.underlying130 (zeroLn w) rfl hkey
  obtain ⟨A, c, hV, hs⟩ := hm.line i hi
  have hvi : v = .agg #[.slice A (X.at_ i).length c] := by
    rw [hkd, lnD_at V _ hi] at hv
    have h1 := (Prod.mk.inj (Option.some.inj hv)).1
    rw [← hV]; exact DataW.held.inj h1
  rw [hvi] at hrun
  clear hvi hv hV hkey hkd
  obtain ⟨Y, hY⟩ : ∃ Y, X.at_ i = Y := ⟨_, rfl⟩
  rw [hY] at hX hs hrun hcl ⊢
  have HAT : Hid (Calls Tryz.prog 102 #[.agg #[.slice A Y.length c], .int .i64 d] w fun e w' => e = .returned (.tuple #[.agg #[.int .i64 (valL Y (q_ Y d)).1, .int .i64 (valL Y (q_ Y d)).2.1, .string (valL Y (q_ Y d)).2.2], .bool (decide (0 ≤ q_ Y d))]) ∧ Below w.heap.size w w') := Lib.hid (li_At Y d A c w hX hs)
  have HCL := Lib.hid hcl
  have HT := Lib.hid ht
  obtain ⟨q, hq⟩ : ∃ q, q_ Y d = q := ⟨_, rfl⟩
  obtain ⟨v1, v2, v3, hval⟩ : ∃ a b c, valL Y q = (a, b, c) := ⟨_, _, _, rfl⟩
  rw [hq, hval] at HCL HAT
  rw [hq]
  obtain ⟨ok, hok⟩ : ∃ z, decide (0 ≤ q) = z := ⟨_, rfl⟩
  rw [hok] at HAT
  have HOK := Lib.hid hok
  clear hq hval hY hok hs hm hcl ht
  go_enter Tryz.func101, Tryz.ntmps101
  go_wp2_with fail
  refine HAT.out.mono ?_
  rintro e w3 ⟨rfl, hb3⟩
  have hk3 : BkT tb t (w3.alloc (.cells #[.int .i64 v1, .int .i64 v2, .string v3] 150)) := (bk_bel HT.out hb3).grows (.of_alloc _ _)
  have hg3 : w.grownBy (w3.alloc (.cells #[.int .i64 v1, .int .i64 v2, .string v3] 150)) (some tb) := gBelow (bTrans hb3 (bAlloc _ _))
  have HT4 := Lib.hid hk3
  have HG4 := Lib.hid hg3
  clear hk3 hg3 hb3 HAT hrun hl hd HT
  cases ok with
  | false =>
    have HN : Hid (selT q t' t = t) := Lib.hid (if_neg (of_decide_eq_false HOK.out))
    go_wp2
    go_end0
    exact ⟨rfl, by rw [HN.out]; exact HT4.out, HG4.out⟩
  | true =>
    have HN : Hid (selT q t' t = t') := Lib.hid (if_pos (of_decide_eq_true HOK.out))
    go_wp2_with fail
    refine (HCL.out _ HT4.out).mono ?_
    rintro e w5 ⟨rfl, hk5, hg5⟩
    have HFIN := Lib.hid (And.intro hk5 (grown_trans HG4.out hg5))
    clear hk5 hg5
    go_wp2
    go_end0
    exact ⟨rfl, by rw [HN.out]; exact HFIN.out.1, HFIN.out.2⟩
theorem bk_terms {rb : Nat} {y5 : World} (t5 : Td) (h : Bk rb 50 #[.int .i64 0, .int .i64 0, .bool false, .int .i64 0, .int .i64 0, .int .i64 0, .int .i64 0, .int .i64 0, .int .i64 0, .int .i64 0, .int .i64 0, .int .i64 0, .string ⟨#[]⟩] y5) : Bk rb 50 (tdC t5) (((((((((((((y5.setCell ⟨rb, 0, none⟩ (.int .i64 t5.fr)).setCell ⟨rb, 1, none⟩ (.int .i64 t5.to)).setCell ⟨rb, 2, none⟩ (.bool t5.em)).setCell ⟨rb, 3, none⟩ (.int .i64 t5.sa)).setCell ⟨rb, 4, none⟩ (.int .i64 t5.pa)).setCell ⟨rb, 5, none⟩ (.int .i64 (t5.h 0))).setCell ⟨rb, 6, none⟩ (.int .i64 (t5.h 1))).setCell ⟨rb, 7, none⟩ (.int .i64 (t5.h 2))).setCell ⟨rb, 8, none⟩ (.int .i64 (t5.h 3))).setCell ⟨rb, 9, none⟩ (.int .i64 (t5.h 4))).setCell ⟨rb, 10, none⟩ (.int .i64 (t5.h 5))).setCell ⟨rb, 11, none⟩ (.int .i64 (t5.h 6))).setCell ⟨rb, 12, none⟩ (.string t5.co)) := by
  have b0 : Bk rb 50 #[.int .i64 t5.fr, .int .i64 0, .bool false, .int .i64 0, .int .i64 0, .int .i64 0, .int .i64 0, .int .i64 0, .int .i64 0, .int .i64 0, .int .i64 0, .int .i64 0, .string ⟨#[]⟩] _ := h.set_ 0 (.int .i64 t5.fr)
  have b1 : Bk rb 50 #[.int .i64 t5.fr, .int .i64 t5.to, .bool false, .int .i64 0, .int .i64 0, .int .i64 0, .int .i64 0, .int .i64 0, .int .i64 0, .int .i64 0, .int .i64 0, .int .i64 0, .string ⟨#[]⟩] _ := b0.set_ 1 (.int .i64 t5.to)
  have b2 : Bk rb 50 #[.int .i64 t5.fr, .int .i64 t5.to, .bool t5.em, .int .i64 0, .int .i64 0, .int .i64 0, .int .i64 0, .int .i64 0, .int .i64 0, .int .i64 0, .int .i64 0, .int .i64 0, .string ⟨#[]⟩] _ := b1.set_ 2 (.bool t5.em)
  have b3 : Bk rb 50 #[.int .i64 t5.fr, .int .i64 t5.to, .bool t5.em, .int .i64 t5.sa, .int .i64 0, .int .i64 0, .int .i64 0, .int .i64 0, .int .i64 0, .int .i64 0, .int .i64 0, .int .i64 0, .string ⟨#[]⟩] _ := b2.set_ 3 (.int .i64 t5.sa)
  have b4 : Bk rb 50 #[.int .i64 t5.fr, .int .i64 t5.to, .bool t5.em, .int .i64 t5.sa, .int .i64 t5.pa, .int .i64 0, .int .i64 0, .int .i64 0, .int .i64 0, .int .i64 0, .int .i64 0, .int .i64 0, .string ⟨#[]⟩] _ := b3.set_ 4 (.int .i64 t5.pa)
  have b5 : Bk rb 50 #[.int .i64 t5.fr, .int .i64 t5.to, .bool t5.em, .int .i64 t5.sa, .int .i64 t5.pa, .int .i64 (t5.h 0), .int .i64 0, .int .i64 0, .int .i64 0, .int .i64 0, .int .i64 0, .int .i64 0, .string ⟨#[]⟩] _ := b4.set_ 5 (.int .i64 (t5.h 0))
  have b6 : Bk rb 50 #[.int .i64 t5.fr, .int .i64 t5.to, .bool t5.em, .int .i64 t5.sa, .int .i64 t5.pa, .int .i64 (t5.h 0), .int .i64 (t5.h 1), .int .i64 0, .int .i64 0, .int .i64 0, .int .i64 0, .int .i64 0, .string ⟨#[]⟩] _ := b5.set_ 6 (.int .i64 (t5.h 1))
  have b7 : Bk rb 50 #[.int .i64 t5.fr, .int .i64 t5.to, .bool t5.em, .int .i64 t5.sa, .int .i64 t5.pa, .int .i64 (t5.h 0), .int .i64 (t5.h 1), .int .i64 (t5.h 2), .int .i64 0, .int .i64 0, .int .i64 0, .int .i64 0, .string ⟨#[]⟩] _ := b6.set_ 7 (.int .i64 (t5.h 2))
  have b8 : Bk rb 50 #[.int .i64 t5.fr, .int .i64 t5.to, .bool t5.em, .int .i64 t5.sa, .int .i64 t5.pa, .int .i64 (t5.h 0), .int .i64 (t5.h 1), .int .i64 (t5.h 2), .int .i64 (t5.h 3), .int .i64 0, .int .i64 0, .int .i64 0, .string ⟨#[]⟩] _ := b7.set_ 8 (.int .i64 (t5.h 3))
  have b9 : Bk rb 50 #[.int .i64 t5.fr, .int .i64 t5.to, .bool t5.em, .int .i64 t5.sa, .int .i64 t5.pa, .int .i64 (t5.h 0), .int .i64 (t5.h 1), .int .i64 (t5.h 2), .int .i64 (t5.h 3), .int .i64 (t5.h 4), .int .i64 0, .int .i64 0, .string ⟨#[]⟩] _ := b8.set_ 9 (.int .i64 (t5.h 4))
  have b10 : Bk rb 50 #[.int .i64 t5.fr, .int .i64 t5.to, .bool t5.em, .int .i64 t5.sa, .int .i64 t5.pa, .int .i64 (t5.h 0), .int .i64 (t5.h 1), .int .i64 (t5.h 2), .int .i64 (t5.h 3), .int .i64 (t5.h 4), .int .i64 (t5.h 5), .int .i64 0, .string ⟨#[]⟩] _ := b9.set_ 10 (.int .i64 (t5.h 5))
  have b11 : Bk rb 50 #[.int .i64 t5.fr, .int .i64 t5.to, .bool t5.em, .int .i64 t5.sa, .int .i64 t5.pa, .int .i64 (t5.h 0), .int .i64 (t5.h 1), .int .i64 (t5.h 2), .int .i64 (t5.h 3), .int .i64 (t5.h 4), .int .i64 (t5.h 5), .int .i64 (t5.h 6), .string ⟨#[]⟩] _ := b10.set_ 11 (.int .i64 (t5.h 6))
  have b12 : Bk rb 50 #[.int .i64 t5.fr, .int .i64 t5.to, .bool t5.em, .int .i64 t5.sa, .int .i64 t5.pa, .int .i64 (t5.h 0), .int .i64 (t5.h 1), .int .i64 (t5.h 2), .int .i64 (t5.h 3), .int .i64 (t5.h 4), .int .i64 (t5.h 5), .int .i64 (t5.h 6), .string t5.co] _ := b11.set_ 12 (.string t5.co)
  exact b12
/-- What stays while the terms are put together. -/
structure OnI (w : World) (lb db rb tb mb : Nat) (d : Int) (W : World) : Prop where
  below : Below w.heap.size w W
  bl : Bk lb 130 #[.map (some mb)] W
  bd : Bk db 29 #[.int .i64 d] W
  br : Bk rb 50 #[.int .i64 0, .int .i64 0, .bool false, .int .i64 0, .int .i64 0, .int .i64 0, .int .i64 0, .int .i64 0, .int .i64 0, .int .i64 0, .int .i64 0, .int .i64 0, .string ⟨#[]⟩] W
  far : w.heap.size ≤ tb ∧ lb ≠ tb ∧ db ≠ tb ∧ rb ≠ tb
theorem OnI.grown {w : World} {lb db rb tb mb : Nat} {d : Int} {W W' : World} (h : OnI w lb db rb tb mb d W) (hg : W.grownBy W' (some tb)) : OnI w lb db rb tb mb d W' :=
  ⟨h.below.grown hg h.below.size (fun j hj => by cases hj; exact h.far.1), h.bl.grownBy hg (by intro e; injection e with e; exact h.far.2.1 e), h.bd.grownBy hg (by intro e; injection e with e; exact h.far.2.2.1 e), h.br.grownBy hg (by intro e; injection e with e; exact h.far.2.2.2 e), h.far⟩
theorem enter_2 (args : Array Value) (w : World) : (callFunc 103 args).run Tryz.prog w = .ok (.enter 103 args) w := by kernel_rfl
theorem enter_3 (args : Array Value) (w : World) : (callFunc 104 args).run Tryz.prog w = .ok (.enter 104 args) w := by kernel_rfl
theorem enter_4 (args : Array Value) (w : World) : (callFunc 105 args).run Tryz.prog w = .ok (.enter 105 args) w := by kernel_rfl
theorem enter_5 (args : Array Value) (w : World) : (callFunc 106 args).run Tryz.prog w = .ok (.enter 106 args) w := by kernel_rfl
theorem enter_6 (args : Array Value) (w : World) : (callFunc 108 args).run Tryz.prog w = .ok (.enter 108 args) w := by kernel_rfl
abbrev SetOk (X : Ls) (w : World) (lb db rb tb mb : Nat) (d : Int) (i n : Nat) (kd : Int) : Prop := ∀ W t, OnI w lb db rb tb mb d W → BkT tb t W → Calls Tryz.prog 101 #[.int .i64 kd, .func (.func n) #[] #[.pointer (some ⟨tb, 0, none⟩)], .pointer (some ⟨lb, 0, none⟩), .pointer (some ⟨db, 0, none⟩)] W fun e w' => e = .returned (.tuple #[]) ∧ BkT tb (setT X d i t) w' ∧ OnI w lb db rb tb mb d w'
theorem set_ok {X : Ls} {w : World} {lb db rb tb mb : Nat} {V : Nat → Value} {d : Int} {i n : Nat} (hi : i < 5) (hX : (X.at_ i).length ≤ 1000000) (hm : LinesAt X mb V w) (hen : ∀ args w, (callFunc n args).run Tryz.prog w = .ok (.enter n args) w)
    (hcl : ∀ W t, BkT tb t W → Calls Tryz.prog n #[.agg #[.int .i64 (valL (X.at_ i) (q_ (X.at_ i) d)).1, .int .i64 (valL (X.at_ i) (q_ (X.at_ i) d)).2.1, .string (valL (X.at_ i) (q_ (X.at_ i) d)).2.2], .pointer (some ⟨tb, 0, none⟩)] W fun e w' => e = .returned (.tuple #[]) ∧ BkT tb (updT i (valL (X.at_ i) (q_ (X.at_ i) d)) t) w' ∧ W.grownBy w' (some tb)) :
    SetOk X w lb db rb tb mb d i n ((i : Int) + 1) := fun W t hI ht =>
  (on_set X mb V i d _ n lb db tb t _ W hi rfl hX (hm.below hI.below) (hI.bl.cell 0) (hI.bd.cell 0) ht hen (fun W' h => hcl W' t h)).mono fun _ _ ⟨h1, h2, h3⟩ => ⟨h1, h2, hI.grown h3⟩
set_option maxHeartbeats 4000000 in
set_option maxRecDepth 100000 in
theorem tm_on (X : Ls) (mb : Nat) (V : Nat → Value) (d : Int) (w : World) (hX : ∀ i, i < 5 → (X.at_ i).length ≤ 1000000) (hx : ∀ x ∈ X.d, x.2.tx.size ≤ 1000000) (hm : LinesAt X mb V w) :
    Calls Tryz.prog 59 #[.map (some mb), .int .i64 d] w fun e w' => e = .returned (.agg (tdC (onX X d))) ∧ Below w.heap.size w w' := by
  obtain ⟨lb, hlb⟩ : ∃ x, w.heap.size = x := ⟨_, rfl⟩
  obtain ⟨db, hdb⟩ : ∃ x, lb + 1 = x := ⟨_, rfl⟩
  obtain ⟨rb, hrb⟩ : ∃ x, db + 1 = x := ⟨_, rfl⟩
  obtain ⟨tb, htb⟩ : ∃ x, rb + 1 = x := ⟨_, rfl⟩
  obtain ⟨w2, hw2⟩ : ∃ x, (((w.alloc (.cells #[.map (some mb)] 130)).alloc (.cells #[.int .i64 d] 29)).alloc (.cells #[.int .i64 0, .int .i64 0, .bool false, .int .i64 0, .int .i64 0, .int .i64 0, .int .i64 0, .int .i64 0, .int .i64 0, .int .i64 0, .int .i64 0, .int .i64 0, .string ⟨#[]⟩] 50)).alloc (.cells #[.int .i64 0, .int .i64 0, .bool false, .int .i64 0, .int .i64 1000000, .int .i64 480, .int .i64 480, .int .i64 480, .int .i64 480, .int .i64 480, .int .i64 0, .int .i64 0, .string ⟨#[102, 105, 114, 109, 58, 49]⟩] 50) = x := ⟨_, rfl⟩
  have hI : OnI w lb db rb tb mb d w2 ∧ BkT tb t0T w2 := by
    have s1 : (w.alloc (.cells #[.map (some mb)] 130)).heap.size = db := by simp; omega
    have s2 : ((w.alloc (.cells #[.map (some mb)] 130)).alloc (.cells #[.int .i64 d] 29)).heap.size = rb := by simp; omega
    have s3 : (((w.alloc (.cells #[.map (some mb)] 130)).alloc (.cells #[.int .i64 d] 29)).alloc (.cells #[.int .i64 0, .int .i64 0, .bool false, .int .i64 0, .int .i64 0, .int .i64 0, .int .i64 0, .int .i64 0, .int .i64 0, .int .i64 0, .int .i64 0, .int .i64 0, .string ⟨#[]⟩] 50)).heap.size = tb := by simp; omega
    have b1 := Bk.new w 130 #[.map (some mb)]
    have b2 := Bk.new (w.alloc (.cells #[.map (some mb)] 130)) 29 #[.int .i64 d]
    have b3 := Bk.new ((w.alloc (.cells #[.map (some mb)] 130)).alloc (.cells #[.int .i64 d] 29)) 50 #[.int .i64 0, .int .i64 0, .bool false, .int .i64 0, .int .i64 0, .int .i64 0, .int .i64 0, .int .i64 0, .int .i64 0, .int .i64 0, .int .i64 0, .int .i64 0, .string ⟨#[]⟩]
    have b4 := Bk.new (((w.alloc (.cells #[.map (some mb)] 130)).alloc (.cells #[.int .i64 d] 29)).alloc (.cells #[.int .i64 0, .int .i64 0, .bool false, .int .i64 0, .int .i64 0, .int .i64 0, .int .i64 0, .int .i64 0, .int .i64 0, .int .i64 0, .int .i64 0, .int .i64 0, .string ⟨#[]⟩] 50)) 50 #[.int .i64 0, .int .i64 0, .bool false, .int .i64 0, .int .i64 1000000, .int .i64 480, .int .i64 480, .int .i64 480, .int .i64 480, .int .i64 480, .int .i64 0, .int .i64 0, .string ⟨#[102, 105, 114, 109, 58, 49]⟩]
    rw [hlb] at b1
    rw [s1] at b2
    rw [s2] at b3
    rw [s3] at b4
    rw [hw2] at b4
    refine ⟨⟨?_, ?_, ?_, ?_, by omega⟩, b4⟩
    · rw [← hw2]; exact ((((Grows.of_alloc _ _).alloc _).alloc _).alloc _).below
    · rw [← hw2]; exact b1.grows (((Grows.of_alloc _ _).alloc _).alloc _)
    · rw [← hw2]; exact b2.grows ((Grows.of_alloc _ _).alloc _)
    · rw [← hw2]; exact b3.grows (Grows.of_alloc _ _)
  have HI := Lib.hid hI.1
  have HT := Lib.hid hI.2
  have hvd : (valL X.d (q_ X.d d)).2.2.size ≤ 1000000 := by
    unfold valL
    split
    · exact Nat.zero_le _
    · split
      · rename_i x h; exact hx x (List.mem_of_getElem? h)
      · exact Nat.zero_le _
  have H1 : Hid (SetOk X w lb db rb tb mb d 0 103 1) := Lib.hid (set_ok (i := 0) (by omega) (hX 0 (by omega)) hm enter_2 fun W t h => on_em t _ _ _ tb W h)
  have H2 : Hid (SetOk X w lb db rb tb mb d 1 104 2) := Lib.hid (set_ok (i := 1) (by omega) (hX 1 (by omega)) hm enter_3 fun W t h => on_sa t _ _ _ tb W h)
  have H3 : Hid (SetOk X w lb db rb tb mb d 2 105 3) := Lib.hid (set_ok (i := 2) (by omega) (hX 2 (by omega)) hm enter_4 fun W t h => on_pa t _ _ _ tb W h)
  have H4 : Hid (SetOk X w lb db rb tb mb d 3 106 4) := Lib.hid (set_ok (i := 3) (by omega) (hX 3 (by omega)) hm enter_5 fun W t h => on_ho t _ _ _ tb W h hvd)
  have H5 : Hid (SetOk X w lb db rb tb mb d 4 108 5) := Lib.hid (set_ok (i := 4) (by omega) (hX 4 (by omega)) hm enter_6 fun W t h => on_co t _ _ _ tb W h)
  have HR : Hid (w.heap.size ≤ rb) := Lib.hid (by omega)
  have HE := Lib.hid (And.intro hlb (And.intro hdb (And.intro hrb (And.intro htb hw2))))
  obtain ⟨t5, ht5⟩ : ∃ z, onX X d = z := ⟨_, rfl⟩
  rw [ht5]
  have HON : Hid (setT X d 4 (setT X d 3 (setT X d 2 (setT X d 1 (setT X d 0 t0T)))) = t5) := Lib.hid ((setT_on X d).trans ht5)
  clear hlb hdb hrb htb hw2 hI hX hx hm hvd ht5
  go_enter Tryz.func59, Tryz.ntmps59
  go_upto_region 2 with fail
  rw [HE.out.1, HE.out.2.1, HE.out.2.2.1, HE.out.2.2.2.1, HE.out.2.2.2.2]
  clear HE
  go_wp2_with fail
  refine (H1.out _ _ HI.out HT.out).mono ?_
  rintro e y1 ⟨rfl, ht, hi⟩
  have HI1 := Lib.hid hi
  have HT1 := Lib.hid ht
  clear HI HT ht hi H1
  go_wp2_with fail
  refine (H2.out _ _ HI1.out HT1.out).mono ?_
  rintro e y2 ⟨rfl, ht, hi⟩
  have HI2 := Lib.hid hi
  have HT2 := Lib.hid ht
  clear HI1 HT1 ht hi H2
  go_wp2_with fail
  refine (H3.out _ _ HI2.out HT2.out).mono ?_
  rintro e y3 ⟨rfl, ht, hi⟩
  have HI3 := Lib.hid hi
  have HT3 := Lib.hid ht
  clear HI2 HT2 ht hi H3
  go_wp2_with fail
  refine (H4.out _ _ HI3.out HT3.out).mono ?_
  rintro e y4 ⟨rfl, ht, hi⟩
  have HI4 := Lib.hid hi
  have HT4 := Lib.hid ht
  clear HI3 HT3 ht hi H4
  go_wp2_with fail
  refine (H5.out _ _ HI4.out HT4.out).mono ?_
  rintro e y5 ⟨rfl, ht, hi⟩
  have HI5 := Lib.hid hi
  have HT5 := Lib.hid ht
  clear HI4 HT4 ht hi H5
  rw [HON.out] at HT5
  clear HON
  have T0 : y5.cell? ⟨tb, 0, none⟩ = some (.int .i64 t5.fr) := HT5.out.cell 0
  have F0 : y5.frozen? ⟨rb, 0, none⟩ = false := HI5.out.br.frozen 0
  have T1 : y5.cell? ⟨tb, 1, none⟩ = some (.int .i64 t5.to) := HT5.out.cell 1
  have F1 : y5.frozen? ⟨rb, 1, none⟩ = false := HI5.out.br.frozen 1
  have T2 : y5.cell? ⟨tb, 2, none⟩ = some (.bool t5.em) := HT5.out.cell 2
  have F2 : y5.frozen? ⟨rb, 2, none⟩ = false := HI5.out.br.frozen 2
  have T3 : y5.cell? ⟨tb, 3, none⟩ = some (.int .i64 t5.sa) := HT5.out.cell 3
  have F3 : y5.frozen? ⟨rb, 3, none⟩ = false := HI5.out.br.frozen 3
  have T4 : y5.cell? ⟨tb, 4, none⟩ = some (.int .i64 t5.pa) := HT5.out.cell 4
  have F4 : y5.frozen? ⟨rb, 4, none⟩ = false := HI5.out.br.frozen 4
  have T5 : y5.cell? ⟨tb, 5, none⟩ = some (.int .i64 (t5.h 0)) := HT5.out.cell 5
  have F5 : y5.frozen? ⟨rb, 5, none⟩ = false := HI5.out.br.frozen 5
  have T6 : y5.cell? ⟨tb, 6, none⟩ = some (.int .i64 (t5.h 1)) := HT5.out.cell 6
  have F6 : y5.frozen? ⟨rb, 6, none⟩ = false := HI5.out.br.frozen 6
  have T7 : y5.cell? ⟨tb, 7, none⟩ = some (.int .i64 (t5.h 2)) := HT5.out.cell 7
  have F7 : y5.frozen? ⟨rb, 7, none⟩ = false := HI5.out.br.frozen 7
  have T8 : y5.cell? ⟨tb, 8, none⟩ = some (.int .i64 (t5.h 3)) := HT5.out.cell 8
  have F8 : y5.frozen? ⟨rb, 8, none⟩ = false := HI5.out.br.frozen 8
  have T9 : y5.cell? ⟨tb, 9, none⟩ = some (.int .i64 (t5.h 4)) := HT5.out.cell 9
  have F9 : y5.frozen? ⟨rb, 9, none⟩ = false := HI5.out.br.frozen 9
  have T10 : y5.cell? ⟨tb, 10, none⟩ = some (.int .i64 (t5.h 5)) := HT5.out.cell 10
  have F10 : y5.frozen? ⟨rb, 10, none⟩ = false := HI5.out.br.frozen 10
  have T11 : y5.cell? ⟨tb, 11, none⟩ = some (.int .i64 (t5.h 6)) := HT5.out.cell 11
  have F11 : y5.frozen? ⟨rb, 11, none⟩ = false := HI5.out.br.frozen 11
  have T12 : y5.cell? ⟨tb, 12, none⟩ = some (.string t5.co) := HT5.out.cell 12
  have F12 : y5.frozen? ⟨rb, 12, none⟩ = false := HI5.out.br.frozen 12
  have R0 : y5.cell? ⟨rb, 0, none⟩ = some (.int .i64 0) := HI5.out.br.cell 0
  have R1 : y5.cell? ⟨rb, 1, none⟩ = some (.int .i64 0) := HI5.out.br.cell 1
  have R2 : y5.cell? ⟨rb, 2, none⟩ = some (.bool false) := HI5.out.br.cell 2
  have R3 : y5.cell? ⟨rb, 3, none⟩ = some (.int .i64 0) := HI5.out.br.cell 3
  have R4 : y5.cell? ⟨rb, 4, none⟩ = some (.int .i64 0) := HI5.out.br.cell 4
  have R5 : y5.cell? ⟨rb, 5, none⟩ = some (.int .i64 0) := HI5.out.br.cell 5
  have R6 : y5.cell? ⟨rb, 6, none⟩ = some (.int .i64 0) := HI5.out.br.cell 6
  have R7 : y5.cell? ⟨rb, 7, none⟩ = some (.int .i64 0) := HI5.out.br.cell 7
  have R8 : y5.cell? ⟨rb, 8, none⟩ = some (.int .i64 0) := HI5.out.br.cell 8
  have R9 : y5.cell? ⟨rb, 9, none⟩ = some (.int .i64 0) := HI5.out.br.cell 9
  have R10 : y5.cell? ⟨rb, 10, none⟩ = some (.int .i64 0) := HI5.out.br.cell 10
  have R11 : y5.cell? ⟨rb, 11, none⟩ = some (.int .i64 0) := HI5.out.br.cell 11
  have R12 : y5.cell? ⟨rb, 12, none⟩ = some (.string ⟨#[]⟩) := HI5.out.br.cell 12
  have HFIN : Hid (Bk rb 50 (tdC t5) (((((((((((((y5.setCell ⟨rb, 0, none⟩ (.int .i64 t5.fr)).setCell ⟨rb, 1, none⟩ (.int .i64 t5.to)).setCell ⟨rb, 2, none⟩ (.bool t5.em)).setCell ⟨rb, 3, none⟩ (.int .i64 t5.sa)).setCell ⟨rb, 4, none⟩ (.int .i64 t5.pa)).setCell ⟨rb, 5, none⟩ (.int .i64 (t5.h 0))).setCell ⟨rb, 6, none⟩ (.int .i64 (t5.h 1))).setCell ⟨rb, 7, none⟩ (.int .i64 (t5.h 2))).setCell ⟨rb, 8, none⟩ (.int .i64 (t5.h 3))).setCell ⟨rb, 9, none⟩ (.int .i64 (t5.h 4))).setCell ⟨rb, 10, none⟩ (.int .i64 (t5.h 5))).setCell ⟨rb, 11, none⟩ (.int .i64 (t5.h 6))).setCell ⟨rb, 12, none⟩ (.string t5.co)) ∧ Below w.heap.size w (((((((((((((y5.setCell ⟨rb, 0, none⟩ (.int .i64 t5.fr)).setCell ⟨rb, 1, none⟩ (.int .i64 t5.to)).setCell ⟨rb, 2, none⟩ (.bool t5.em)).setCell ⟨rb, 3, none⟩ (.int .i64 t5.sa)).setCell ⟨rb, 4, none⟩ (.int .i64 t5.pa)).setCell ⟨rb, 5, none⟩ (.int .i64 (t5.h 0))).setCell ⟨rb, 6, none⟩ (.int .i64 (t5.h 1))).setCell ⟨rb, 7, none⟩ (.int .i64 (t5.h 2))).setCell ⟨rb, 8, none⟩ (.int .i64 (t5.h 3))).setCell ⟨rb, 9, none⟩ (.int .i64 (t5.h 4))).setCell ⟨rb, 10, none⟩ (.int .i64 (t5.h 5))).setCell ⟨rb, 11, none⟩ (.int .i64 (t5.h 6))).setCell ⟨rb, 12, none⟩ (.string t5.co))) := Lib.hid (by
    have hr := HR.out
    exact ⟨bk_terms t5 HI5.out.br, (((((((((((((HI5.out.below.setCell (p := ⟨rb, 0, none⟩) hr (.int .i64 t5.fr)).setCell (p := ⟨rb, 1, none⟩) hr (.int .i64 t5.to)).setCell (p := ⟨rb, 2, none⟩) hr (.bool t5.em)).setCell (p := ⟨rb, 3, none⟩) hr (.int .i64 t5.sa)).setCell (p := ⟨rb, 4, none⟩) hr (.int .i64 t5.pa)).setCell (p := ⟨rb, 5, none⟩) hr (.int .i64 (t5.h 0))).setCell (p := ⟨rb, 6, none⟩) hr (.int .i64 (t5.h 1))).setCell (p := ⟨rb, 7, none⟩) hr (.int .i64 (t5.h 2))).setCell (p := ⟨rb, 8, none⟩) hr (.int .i64 (t5.h 3))).setCell (p := ⟨rb, 9, none⟩) hr (.int .i64 (t5.h 4))).setCell (p := ⟨rb, 10, none⟩) hr (.int .i64 (t5.h 5))).setCell (p := ⟨rb, 11, none⟩) hr (.int .i64 (t5.h 6))).setCell (p := ⟨rb, 12, none⟩) hr (.string t5.co))⟩)
  clear HI5 HT5 HR
  go_wp2
  obtain ⟨hz, hzb⟩ := HFIN.out
  have z0 := hz.cell 0
  have z1 := hz.cell 1
  have z2 := hz.cell 2
  have z3 := hz.cell 3
  have z4 := hz.cell 4
  have z5 := hz.cell 5
  have z6 := hz.cell 6
  have z7 := hz.cell 7
  have z8 := hz.cell 8
  have z9 := hz.cell 9
  have z10 := hz.cell 10
  have z11 := hz.cell 11
  have z12 := hz.cell 12
  simp only [tdC] at z0 z1 z2 z3 z4 z5 z6 z7 z8 z9 z10 z11 z12
  exact bodyPost_ret (v := .agg (tdC t5)) (by simp [results, Tryz.results59, go_sem, tdC, z0, z1, z2, z3, z4, z5, z6, z7, z8, z9, z10, z11, z12]) rfl ⟨rfl, hzb⟩
end Go.Proofs.YtlgoaohklggcdaaGreatDoor

namespace Go.Proofs.YtlgoaohklggcdaaGreatDoor
open Go.RowKit Go.Sort Go.WideMaps Go.Maps Go.WideElems

def eq7 (f g : Nat → Int) : Bool := decide (f 0 = g 0 ∧ f 1 = g 1 ∧ f 2 = g 2 ∧ f 3 = g 3 ∧ f 4 = g 4 ∧ f 5 = g 5 ∧ f 6 = g 6)
set_option maxHeartbeats 4000000 in
set_option maxRecDepth 100000 in
theorem eqW (f g : Nat → Int) (w : World) : (Op.equalIn 9999 48 (.agg #[.int .i64 (f 0), .int .i64 (f 1), .int .i64 (f 2), .int .i64 (f 3), .int .i64 (f 4), .int .i64 (f 5), .int .i64 (f 6)]) (.agg #[.int .i64 (g 0), .int .i64 (g 1), .int .i64 (g 2), .int .i64 (g 3), .int .i64 (g 4), .int .i64 (g 5), .int .i64 (g 6)])).run Tryz.prog w = .ok (eq7 f g) w := by
  have u3 := Tryz.underlying3
  have a3 := Tryz.isAgg3
  have z3 := Tryz.sizeOf3
  rw [show (9999 : Nat) = 9998 + 1 from rfl, Op.equalIn]
  simp only [Sem.run_bind, run_underlying Tryz.underlying48, Result.andThen_ok]
  simp only [Std.Legacy.Range.forIn_eq_forIn_range', Std.Legacy.Range.size, Nat.sub_zero, Nat.add_sub_cancel, Nat.div_one, List.range'_succ, List.range'_zero, List.forIn_cons, List.forIn_nil]
  go_simp
  unfold eq7
  by_cases h0 : f 0 = g 0 <;> by_cases h1 : f 1 = g 1 <;> by_cases h2 : f 2 = g 2 <;> by_cases h3 : f 3 = g 3 <;> by_cases h4 : f 4 = g 4 <;> by_cases h5 : f 5 = g 5 <;> by_cases h6 : f 6 = g 6 <;> simp [h0, h1, h2, h3, h4, h5, h6]
/-- Are terms alike, but for their span? -/
def eqTd (x y : Td) : Bool := decide (x.em = y.em) && (decide (x.sa = y.sa) && (decide (x.pa = y.pa) && (eq7 x.h y.h && decide (x.co.toList = y.co.toList))))
theorem toList_inj {a b : ByteArray} (h : a.toList = b.toList) : a = b := by
  rw [ByteArray.toList_eq, ByteArray.toList_eq] at h
  obtain ⟨⟨x⟩⟩ := a
  obtain ⟨⟨y⟩⟩ := b
  simp at h
  rw [h]
theorem eqTd_key (x y : Td) : eqTd x y = decide (keyT x = keyT y) := by
  unfold eqTd keyT eq7
  rw [Bool.eq_iff_iff]
  simp only [Bool.and_eq_true, decide_eq_true_eq]
  constructor
  · rintro ⟨h1, h2, h3, ⟨h4, h5, h6, h7, h8, h9, h10⟩, h11⟩
    rw [h1, h2, h3, h4, h5, h6, h7, h8, h9, h10, toList_inj h11]
  · intro h
    simp only [Prod.mk.injEq, List.cons.injEq, and_true] at h
    obtain ⟨h1, h2, h3, ⟨h4, h5, h6, h7, h8, h9, h10⟩, h11⟩ := h
    exact ⟨h1, h2, h3, ⟨h4, h5, h6, h7, h8, h9, h10⟩, by rw [h11]⟩
set_option maxHeartbeats 4000000 in
set_option maxRecDepth 100000 in
theorem run_eqT (x y : Td) (sf st : Int) (w : World) : (binOp .eql 50 (.agg #[.int .i64 sf, .int .i64 st, .bool x.em, .int .i64 x.sa, .int .i64 x.pa, .int .i64 (x.h 0), .int .i64 (x.h 1), .int .i64 (x.h 2), .int .i64 (x.h 3), .int .i64 (x.h 4), .int .i64 (x.h 5), .int .i64 (x.h 6), .string x.co]) (.agg #[.int .i64 sf, .int .i64 st, .bool y.em, .int .i64 y.sa, .int .i64 y.pa, .int .i64 (y.h 0), .int .i64 (y.h 1), .int .i64 (y.h 2), .int .i64 (y.h 3), .int .i64 (y.h 4), .int .i64 (y.h 5), .int .i64 (y.h 6), .string y.co])).run Tryz.prog w = .ok (.bool (eqTd x y)) w := by
  have hw := eqW x.h y.h
  unfold eqTd
  generalize eq7 x.h y.h = b at hw ⊢
  by_cases h0 : x.em = y.em <;> by_cases h1 : x.sa = y.sa <;> by_cases h2 : x.pa = y.pa <;> by_cases h10 : x.co.toList = y.co.toList <;> cases b <;> go_simp
theorem rows_far {α : Type} {enc : α → List Value} {k B r : Nat} {w w' : World} {A : Option Addr} {L : List α} (h : Sl enc k w B A L) (hB : B ≤ w.heap.size) (he : ∀ x : α, enc x ≠ []) (hr : ∀ cs t f, w.heap[r]? ≠ some (.cells cs t f)) (hg : w.grownBy w' (some r)) : Sl enc k w' B A L := fun hl => by
  obtain ⟨b, off, e, hlt, hc⟩ := h hl
  have hne : b ≠ r := by
    rintro rfl
    obtain ⟨x, hx⟩ : ∃ x, L[0]? = some x := ⟨_, List.getElem?_eq_getElem (List.length_pos_iff.2 hl)⟩
    obtain ⟨u, hu⟩ : ∃ u, (enc x)[0]? = some u := ⟨_, List.getElem?_eq_getElem (List.length_pos_iff.2 (he x))⟩
    have := hc 0 x hx 0 u hu
    unfold World.cell? at this
    cases h2 : w.heap[b]? with
    | none => simp [h2] at this
    | some o =>
      cases o with
      | cells cs t f => exact hr cs t f h2
      | _ => simp [h2] at this
  exact ⟨b, off, e, hlt, fun i x hx j u hu => by
    have h2 := hc i x hx j u hu
    have h3 : w'.heap[b]? = w.heap[b]? := hg.block b (Nat.lt_of_lt_of_le hlt hB) (by intro h4; injection h4 with h4; exact hne h4)
    unfold World.cell? at h2 ⊢
    simp only [h3]
    exact h2⟩
abbrev Rng (w : World) (mb r : Nat) (V : Nat → Value) (left : Lit → Bool) (cnt : Nat) : Prop := w.ranges Tryz.prog 3 heldR mb r 5 (lnD V 5) left cnt
theorem Rng.iter {w : World} {mb r cnt : Nat} {V : Nat → Value} {left : Lit → Bool} (h : Rng w mb r V left cnt) : ∀ cs t f, w.heap[r]? ≠ some (.cells cs t f) := by
  obtain ⟨es, clock, since, seen, c0, _, _, _, _, hr, _⟩ := h
  intro cs t f h2
  rw [hr] at h2
  cases h2
/-- What stays while the lines are asked for their changes. -/
structure OfI (w : World) (B mb r sb : Nat) (X : Ls) (V : Nat → Value) (F T : Int) (W : World) : Prop where
  below : Below w.heap.size w W
  size : B ≤ W.heap.size
  sp : Bk sb 31 #[.int .i64 F, .int .i64 T] W
  line : ∀ i, i < 5 → ∃ A c, V i = .agg #[.slice A (X.at_ i).length c] ∧ Sl encK 9 W B A (X.at_ i)
  far : w.heap.size ≤ r ∧ w.heap.size ≤ B ∧ sb < B ∧ sb ≠ r ∧ r < B ∧ mb < B
theorem OfI.next {w : World} {B mb r sb : Nat} {X : Ls} {V : Nat → Value} {F T : Int} {W W' : World} (h : OfI w B mb r sb X V F T W) (hr : ∀ cs t f, W.heap[r]? ≠ some (.cells cs t f)) (hg : W.grownBy W' (some r)) : OfI w B mb r sb X V F T W' :=
  ⟨h.below.grown hg h.below.size (fun j hj => by cases hj; exact h.far.1), Nat.le_trans h.size hg.size, h.sp.grownBy hg (by intro e; injection e with e; exact h.far.2.2.2.1 e), fun i hi => by
    obtain ⟨A, c, h1, h2⟩ := h.line i hi
    exact ⟨A, c, h1, rows_far h2 h.size encK_ne hr hg⟩, h.far⟩
theorem OfI.bel {w : World} {B mb r sb : Nat} {X : Ls} {V : Nat → Value} {F T : Int} {W W' : World} (h : OfI w B mb r sb X V F T W) (hb : Below W.heap.size W W') : OfI w B mb r sb X V F T W' :=
  ⟨h.below.trans (hb.mono h.below.size), Nat.le_trans h.size hb.size, bk_bel h.sp hb, fun i hi => by
    obtain ⟨A, c, h1, h2⟩ := h.line i hi
    exact ⟨A, c, h1, fun hl => by
      obtain ⟨b, off, e, hlt, hc⟩ := h2 hl
      exact ⟨b, off, e, hlt, fun i x hx j u hu => (hb.cell (p := ⟨b, _, none⟩) (Nat.lt_of_lt_of_le hlt h.size)).trans (hc i x hx j u hu)⟩⟩, h.far⟩
theorem OfI.app {w : World} {B mb r sb : Nat} {X : Ls} {V : Nat → Value} {F T : Int} {W W' : World} {j : Option Nat} (h : OfI w B mb r sb X V F T W) (hj : ∀ k, j = some k → B ≤ k) (hg : W.grownBy W' j) : OfI w B mb r sb X V F T W' := by
  have hblk : ∀ b, b < B → W'.heap[b]? = W.heap[b]? := fun b hb => hg.block b (Nat.lt_of_lt_of_le hb h.size) (fun e => by have := hj b e.symm; omega)
  exact ⟨h.below.grown hg h.below.size (fun k hk => Nat.le_trans h.far.2.1 (hj k hk)), Nat.le_trans h.size hg.size, (hblk sb h.far.2.2.1).trans h.sp, fun i hi => by
    obtain ⟨A, c, h1, h2⟩ := h.line i hi
    exact ⟨A, c, h1, fun hl => by
      obtain ⟨b, off, e, hlt, hc⟩ := h2 hl
      exact ⟨b, off, e, hlt, fun i x hx j u hu => by
        have h3 := hc i x hx j u hu
        unfold World.cell? at h3 ⊢
        simp only [hblk b hlt]
        exact h3⟩⟩, h.far⟩
theorem Rng.app {w : World} {B mb r sb cnt : Nat} {X : Ls} {V : Nat → Value} {F T : Int} {W W' : World} {j : Option Nat} {left : Lit → Bool} (k : Rng W mb r V left cnt) (h : OfI w B mb r sb X V F T W) (hj : ∀ k, j = some k → B ≤ k) (hg : W.grownBy W' j) : Rng W' mb r V left cnt :=
  World.ranges.kept k hg (fun e => by have := hj mb e.symm; have := h.far; omega) (fun e => by have := hj r e.symm; have := h.far; omega)
theorem Rng.bel {mb r cnt : Nat} {V : Nat → Value} {W W' : World} {left : Lit → Bool} (k : Rng W mb r V left cnt) (hb : Below W.heap.size W W') : Rng W' mb r V left cnt :=
  World.ranges.kept (row := none) k ⟨hb.os, hb.tape, hb.output, hb.size, fun i hi _ => hb.block i hi⟩ (by simp) (by simp)
theorem keyOf_int_inv' {key : Value} {x : Int} (h : keyOf Tryz.prog 3 key = some (.int .i64 x)) : key = .int .i64 x := by
  obtain ⟨y, e, h2, _⟩ := Maps.keyOf_int_inv Tryz.underlying3 h
  rw [e, (Lit.int.inj h2).2]
set_option maxRecDepth 100000 in
/-- A range's step over the lines. -/
theorem wp_next_lines (w : World) {ops : Array Oper} {rest : List Oper} {o : Oper} {a : Act} {Q : Exit → Act → World → Prop} (hg : o.guard = none) (it : Operand) (hop : o.op = Op.next it false) {mb r cnt : Nat} {V : Nat → Value} {left : Lit → Bool} {X : Ls}
    (hit : a.eval it = .pointer (some ⟨r, 0, none⟩)) (h : Rng w mb r V left cnt) (hl : ∀ kl, left kl = true → ∃ i : Nat, i < 5 ∧ kl = .int .i64 ((i : Int) + 1)) (hV : ∀ i, i < 5 → ∃ A c, V i = .agg #[.slice A (X.at_ i).length c])
    (hDone : cnt = 0 → (∀ kl, left kl = false) → wpList Tryz.prog ops Q rest (a.put o.dst (.tuple #[.bool false])) w)
    (hMore : ∀ (i : Nat) (A : Option Addr) (c : Nat) (w' : World) (cnt' : Nat), i < 5 → V i = .agg #[.slice A (X.at_ i).length c] → Rng w' mb r V (fun z => left z && !z.sameKey (.int .i64 ((i : Int) + 1))) cnt' → cnt' < cnt → w.grownBy w' (some r) → w'.heap.size = w.heap.size →
      (Instr.entry (.pointer (some ⟨r, 0, none⟩))).run Tryz.prog w' = .ok (.tuple #[.int .i64 ((i : Int) + 1), .agg #[.slice A (X.at_ i).length c]]) w' → wpList Tryz.prog ops Q rest (a.put o.dst (.tuple #[.bool true, .int .i64 ((i : Int) + 1), .agg #[.slice A (X.at_ i).length c]])) w') :
    wpList Tryz.prog ops Q (o :: rest) a w := by
  refine wpList_next_ranges w hg it hop (α := Value) (β := Value) _ keyI heldR (fun v => v) (fun v => v) ?_ ?_ mb r 5 (lnD V 5) left cnt hit h hDone ?_
  · exact fun key kl _ => ⟨key, rfl⟩
  · exact fun v y _ => ⟨v, rfl⟩
  intro x c kl y w' cnt' hkey hlk hv hat hrg hlt hgr hsz hen
  obtain ⟨i, hi, hkl⟩ := hl kl hlk
  subst hkl
  have hx := keyOf_int_inv' hkey
  have h1 := hat (.held undef)
  rw [lnD_at V _ hi] at h1
  have h2 : DataW.held c = y.1 := congrArg Prod.fst (Option.some.inj hv)
  have hc : c = V i := DataW.held.inj (h2.trans h1.symm)
  obtain ⟨A, cc, hVi⟩ := hV i hi
  rw [hVi] at hc
  subst hx
  subst hc
  exact hMore i A cc w' cnt' hi hVi hrg hlt hgr hsz hen
end Go.Proofs.YtlgoaohklggcdaaGreatDoor

namespace Go.Proofs.YtlgoaohklggcdaaGreatDoor
open Go.RowKit Go.Sort Go.WideMaps Go.Maps Go.WideElems

/-- A piece's terms, as cells. -/
def encO (X : Ls) (p : Spn) : List Value := (tdC { onX X p.1 with fr := p.1, «to» := p.2 }).toList
theorem encO_len (X : Ls) (p : Spn) : (encO X p).length = 13 := rfl
theorem encO_one (X : Ls) (p : Spn) : ∀ u ∈ encO X p, u.oneCell' = true := by
  intro u hu
  simp only [encO, tdC, List.mem_cons, List.not_mem_nil, or_false] at hu
  rcases hu with rfl | rfl | rfl | rfl | rfl | rfl | rfl | rfl | rfl | rfl | rfl | rfl | rfl <;> rfl
abbrev OwnO (X : Ls) (B : Nat) (v : Value) (l : List Spn) (w : World) : Prop := Own (encO X) 13 50 B v l w
theorem termsInfo : (Tryz.prog.info? 50).map (fun i => (i.zero, i.size, i.bytes)) = some (some (.agg #[.int .i64 0, .int .i64 0, .bool false, .int .i64 0, .int .i64 0, .int .i64 0, .int .i64 0, .int .i64 0, .int .i64 0, .int .i64 0, .int .i64 0, .int .i64 0, .string ⟨#[]⟩]), 13, 112) := by kernel_rfl
/-- What is wrong with a span; else its pieces. -/
def ofE (F T : Int) : Int := if T ≤ F then 0 else if -25567 ≤ F ∧ T ≤ 84006 then 0 else 24
def ofL (X : Ls) (F T : Int) : List Spn := if T ≤ F then [] else if -25567 ≤ F ∧ T ≤ 84006 then runsOf (eT X) F T else []
theorem of_out {X : Ls} {F T : Int} (h : F < T) (h2 : ¬ (-25567 ≤ F ∧ T ≤ 84006)) : ofL X F T = [] ∧ ofE F T = 24 := by
  have h1 : ¬ T ≤ F := by omega
  exact ⟨by unfold ofL; rw [if_neg h1, if_neg h2], by unfold ofE; rw [if_neg h1, if_neg h2]⟩
theorem of_in {X : Ls} {F T : Int} (h : F < T) (h2 : -25567 ≤ F ∧ T ≤ 84006) : ofL X F T = runsOf (eT X) F T ∧ ofE F T = 0 := by
  have h1 : ¬ T ≤ F := by omega
  exact ⟨by unfold ofL; rw [if_neg h1, if_pos h2], by unfold ofE; rw [if_neg h1, if_pos h2]⟩
theorem cross_in {F T c1 c2 : Int} (h : F < T) (hc : crossS F T (-25567) 84006 = (c1, c2)) : decide (-25567 ≤ F ∧ T ≤ 84006) = (decide (c1 = F) && decide (c2 = T)) := by
  unfold crossS at hc
  rw [Bool.eq_iff_iff]
  simp only [decide_eq_true_eq, Bool.and_eq_true]
  split at hc
  · injection hc with h1 h2
    omega
  · injection hc with h1 h2
    omega
theorem lnD_all (V : Nat → Value) : ∀ {k i : Nat}, i < k → has (lnD V k) (.int .i64 ((i : Int) + 1)) = true
  | 0, i, h => by omega
  | k + 1, i, h => by
    rw [lnD]
    by_cases e : i = k
    · subst e
      exact has_put_same (lnD_map V i) (by trivial) _
    · rw [has_put_other (by intro h2; have := (Lit.int.inj h2).2; omega)]
      exact lnD_all V (by omega)
theorem map_size {w : World} {b n : Nat} {D : DataW Value} (h : HM w b n D) : size D ≤ n := by
  obtain ⟨es, clock, _, _, hs, rfl⟩ := h
  simpa [size, length_sorted] using hs
def key5 (i : Nat) : Lit := .int .i64 ((i : Int) + 1)
/-- What the cuts hold, and what is still to come. -/
def ChgI (X : Ls) (F T : Int) (left : Lit → Bool) (C : List Int) : Prop := (∀ i, i < 5 → left (key5 i) = false → ∀ c ∈ changesX (X.at_ i) F T, c ∈ C) ∧ (∀ kl, left kl = true → ∃ i : Nat, i < 5 ∧ kl = .int .i64 ((i : Int) + 1))
theorem lnD_no (V : Nat → Value) {kl : Lit} (h : ∀ n : Nat, kl ≠ .int .i64 ((n : Int) + 1)) : ∀ k, has (lnD V k) kl = false
  | 0 => rfl
  | k + 1 => by rw [lnD, has_put_other (h k)]; exact lnD_no V h k
theorem ChgI.start (X : Ls) (F T : Int) (V : Nat → Value) (C : List Int) : ChgI X F T (has (lnD V 5)) C :=
  ⟨fun i hi h => absurd ((lnD_all V hi).symm.trans h) (by simp), fun kl h => by
    by_cases he : ∃ n : Nat, kl = .int .i64 ((n : Int) + 1)
    · obtain ⟨n, rfl⟩ := he
      obtain ⟨i, h1, h2⟩ := lnD_has V h
      exact ⟨i, h1, by rw [h2]⟩
    · rw [lnD_no V (fun n e => he ⟨n, e⟩)] at h
      cases h⟩
theorem ChgI.more {X : Ls} {F T : Int} {left : Lit → Bool} {C D : List Int} {i : Nat} (h : ChgI X F T left C) (hi : i < 5) (hD : D = changesX (X.at_ i) F T) : ChgI X F T (fun z => left z && !z.sameKey (.int .i64 ((i : Int) + 1))) (C ++ D) :=
  ⟨fun j hj hl c hc => by
    by_cases e : j = i
    · subst e; exact List.mem_append_right _ (by rw [hD]; exact hc)
    · have h2 : (key5 j).sameKey (.int .i64 ((i : Int) + 1)) = false := sameKey_ne (by unfold key5; intro h3; have := (Lit.int.inj h3).2; omega)
      simp only [h2, Bool.not_false, Bool.and_true] at hl
      exact List.mem_append_left _ (h.1 j hj hl c hc), fun kl hl => h.2 kl (by simp only [Bool.and_eq_true] at hl; exact hl.1)⟩
theorem ChgI.done {X : Ls} {F T : Int} {left : Lit → Bool} {C : List Int} (h : ChgI X F T left C) (hl : ∀ kl, left kl = false) : ∀ c, chgA X F T c → c ∈ C := fun c hc => by
  rcases hc with hc | hc | hc | hc | hc
  · exact h.1 0 (by omega) (hl _) c hc
  · exact h.1 1 (by omega) (hl _) c hc
  · exact h.1 2 (by omega) (hl _) c hc
  · exact h.1 3 (by omega) (hl _) c hc
  · exact h.1 4 (by omega) (hl _) c hc
theorem changes_len {X : List Kn} (F T : Int) (h : X.length ≤ 4096) : (changesX X F T).length ≤ 10001 := Nat.le_trans (chgS_len _ _) (strL_len F T h)
theorem gBel {w w' : World} (hg : w.grownBy w' none) : Below w.heap.size w w' := ⟨hg.os, hg.tape, hg.output, hg.size, fun i hi => hg.block i hi (by simp)⟩
theorem li_Chg (X : List Kn) (F T : Int) (A : Option Addr) (cap : Nat) (w : World) (hX : X.length ≤ 4096) (hs : SlK1 w A X) :
    Calls Tryz.prog 57 #[.agg #[.slice A X.length cap], .agg #[.int .i64 F, .int .i64 T]] w fun e w' => ∃ A' c', e = .returned (.slice A' (changesX X F T).length c') ∧ Below w.heap.size w w' ∧ SlDd w' A' (changesX X F T) :=
  (callsIn_wide.1 (li_Changes_in X F T A cap w hX hs)).mono fun e w' ⟨⟨v, h1, h2⟩, h3⟩ => by
    rcases h2.shape with ⟨rfl, h4⟩ | ⟨g, cap, rfl, _, _, _, h5⟩
    · exact ⟨none, 0, by rw [h1, h4]; rfl, h3, fun h => absurd h4 h⟩
    · exact ⟨_, _, h1, h3, fun _ => ⟨g, 0, rfl, fun i x hx => by rw [Nat.zero_add]; exact h5 i x hx⟩⟩
theorem slOf {B : Nat} {v : Value} {C : List Int} {w : World} (h : OwnDd B v C w) : ∃ A c, v = .slice A C.length c ∧ Hid (OwnDd B (.slice A C.length c) C w) := by
  obtain ⟨A, c, e, _⟩ := own_sl encDd_len h
  exact ⟨A, c, e, Lib.hid (by rw [← e]; exact h)⟩
theorem pcs_len (T : Int) : ∀ (C : List Int) (F : Int), (pcsS F T C).length ≤ C.length + 1
  | [], _ => Nat.le_refl _
  | c :: C, F => by
    unfold pcsS
    split
    · have := pcs_len T C c; simp only [List.length_cons]; omega
    · have := pcs_len T C F; simp only [List.length_cons]; omega
theorem pieces_len (F T : Int) (C : List Int) : (piecesS F T C).length ≤ C.length + 1 := by
  unfold piecesS
  split
  · exact Nat.zero_le _
  · have := pcs_len T (C.mergeSort fun x y => decide (x ≤ y)) F
    rwa [List.length_mergeSort] at this
theorem mrg_take {e : Int → Int → Bool} {P : List Spn} {k : Nat} {x : Spn} (h : P[k]? = some x) : (P.take (k + 1)).foldl (mrgS e) [] = mrgS e ((P.take k).foldl (mrgS e) []) x := by
  rw [List.take_add_one, h, List.foldl_append]
  rfl
theorem sp_Pcs (F T : Int) (C : List Int) (A : Option Addr) (cap B : Nat) (w : World) (hn : C.length ≤ 100000) (hs : OwnDd B (.slice A C.length cap) C w) :
    Calls Tryz.prog 58 #[.agg #[.int .i64 F, .int .i64 T], .slice A C.length cap] w fun e w' => ∃ A' c', e = .returned (.slice A' (piecesS F T C).length c') ∧ Below w.heap.size w w' ∧ Sl encSp 2 w' w'.heap.size A' (piecesS F T C) := by
  obtain ⟨A1, c1, e1, _, h1⟩ := own_sl encDd_len hs
  injection e1 with e1 _ e3
  subst e1
  exact (sp_Pieces F T C A cap w hn h1).mono fun e w' ⟨⟨v, h2, h3⟩, h4⟩ => by
    obtain ⟨A', c', rfl, _, h5⟩ := own_sl encSp_len h3
    exact ⟨A', c', h2, h4, h5⟩
theorem setLastO {X : Ls} {O : List Spn} {a b c : Int} : (rowOf (encO X) (O ++ [(a, b)])).set (O.length * 13 + 1) (.int .i64 c) = rowOf (encO X) (O ++ [(a, c)]) := by
  rw [rowOf_append, rowOf_append]
  have hl : (rowOf (encO X) O).length = O.length * 13 := rowOf_length (encO_len X) O
  rw [List.set_append_right _ _ (by omega), hl, Nat.add_sub_cancel_left]
  rfl
theorem ownLastO {X : Ls} {B : Nat} {v : Value} {O : List Spn} {x : Spn} {w : World} (h : w.ownsRow B 50 13 v (O.length + 1) (rowOf (encO X) (O ++ [x]))) : OwnO X B v (O ++ [x]) w := by
  show w.ownsRow B _ 13 v (O ++ [x]).length _
  rw [show (O ++ [x]).length = O.length + 1 by simp]
  exact h
theorem lastOfO {X : Ls} {B cp : Nat} {A : Option Addr} {O : List Spn} {x : Spn} {w : World} (h : OwnO X B (.slice A (O.length + 1) cp) (O ++ [x]) w) :
    ∃ g, A = some ⟨g, 0, none⟩ ∧ B ≤ g ∧ g < w.heap.size ∧ (∀ j u, (encO X x)[j]? = some u → w.cell? ⟨g, O.length * 13 + j, none⟩ = some u) ∧ w.ownsRow B 50 13 (.slice (some ⟨g, 0, none⟩) (O.length + 1) cp) (O.length + 1) (rowOf (encO X) (O ++ [x])) := by
  obtain ⟨g, cap, hv, hb, hr⟩ := Own.row (encO_len X) h (by simp)
  injection hv with h1 h2 h3
  subst h1; subst h3
  refine ⟨g, rfl, hb, hr.lt, fun j u hu => hr.cell (i := O.length) (by simp) hu, ?_⟩
  have h2 : w.ownsRow B 50 13 (.slice (some ⟨g, 0, none⟩) (O.length + 1) cp) (O ++ [x]).length (rowOf (encO X) (O ++ [x])) := h
  rwa [show (O ++ [x]).length = O.length + 1 by simp] at h2
theorem newsT (t : Td) (a b : Int) (W : World) : ∀ j u, (tdC { t with fr := a, «to» := b }).toList[j]? = some u → (W.alloc (.cells #[.int .i64 a, .int .i64 b, .bool t.em, .int .i64 t.sa, .int .i64 t.pa, .int .i64 (t.h 0), .int .i64 (t.h 1), .int .i64 (t.h 2), .int .i64 (t.h 3), .int .i64 (t.h 4), .int .i64 (t.h 5), .int .i64 (t.h 6), .string t.co] 50)).cell? ⟨W.heap.size, j, none⟩ = some u := fun j u hu => by
  rw [(Bk.new W _ _).cell j]
  simpa [tdC] using hu
/-- Rows that end alike. -/
theorem slO {X : Ls} {B : Nat} {v : Value} {O : List Spn} {w : World} (h : OwnO X B v O w) : ∃ A c, v = .slice A O.length c ∧ Hid (OwnO X B (.slice A O.length c) O w) := by
  obtain ⟨A, c, e, _⟩ := own_sl (encO_len X) h
  exact ⟨A, c, e, Lib.hid (by rw [← e]; exact h)⟩
/-- What stays while a piece is put behind the others. -/
structure RoI (X : Ls) (w8 : World) (pb tb : Nat) (v : Value) (O : List Spn) (x : Spn) (t : Td) (a b : Int) (W : World) : Prop where
  own : OwnO X w8.heap.size v O W
  tk : Bk tb 50 #[.int .i64 a, .int .i64 b, .bool t.em, .int .i64 t.sa, .int .i64 t.pa, .int .i64 (t.h 0), .int .i64 (t.h 1), .int .i64 (t.h 2), .int .i64 (t.h 3), .int .i64 (t.h 4), .int .i64 (t.h 5), .int .i64 (t.h 6), .string t.co] W
  pk : Bk pb 31 #[.int .i64 x.1, .int .i64 x.2] W
  below : Below w8.heap.size w8 W
  far1 : w8.heap.size ≤ tb
  far2 : pb ≠ tb
  far3 : v.ownBlock ≠ some tb
theorem RoI.set_ {X : Ls} {w8 : World} {pb tb : Nat} {v : Value} {O : List Spn} {x : Spn} {t : Td} {a b : Int} {W : World} (h : RoI X w8 pb tb v O x t a b W) (c d : Int) : RoI X w8 pb tb v O x t c d ((W.setCell ⟨tb, 0, none⟩ (.int .i64 c)).setCell ⟨tb, 1, none⟩ (.int .i64 d)) := by
  have hg : W.grownBy ((W.setCell ⟨tb, 0, none⟩ (.int .i64 c)).setCell ⟨tb, 1, none⟩ (.int .i64 d)) (some tb) := grown_trans (gSet _ _ _) (gSet _ _ _)
  exact ⟨h.own.kept hg (.inr h.far3), (h.tk.set_ 0 (.int .i64 c)).set_ 1 (.int .i64 d), h.pk.grownBy hg (fun e => by injection e with e; exact h.far2 e), (h.below.setCell (p := ⟨tb, 0, none⟩) h.far1 _).setCell (p := ⟨tb, 1, none⟩) h.far1 _, h.far1, h.far2, h.far3⟩
theorem RoI.drewN {X : Ls} {w8 : World} {pb tb : Nat} {v : Value} {O : List Spn} {x : Spn} {t : Td} {a b : Int} {W : World} (h : RoI X w8 pb tb v O x t a b W) (n : Nat) : RoI X w8 pb tb v O x t a b (W.drewN n) :=
  ⟨own_bel h.own (bDrewN W n), h.tk, h.pk, h.below.trans ((bDrewN W n).mono h.below.size), h.far1, h.far2, h.far3⟩
theorem run_neS (a b c d : Int) (w : World) : (binOp .neq 31 (.agg #[.int .i64 a, .int .i64 b]) (.agg #[.int .i64 c, .int .i64 d])).run Tryz.prog w = .ok (.bool (!(decide (a = c) && decide (b = d)))) w := by
  by_cases h1 : a = c <;> by_cases h2 : b = d <;> go_simp
set_option maxHeartbeats 8000000 in
set_option maxRecDepth 100000 in
theorem tm_Of (L : List Fa) (AV : Option Addr) (cV : Nat) (pe F T : Int) (w : World) (hn : L.length ≤ 4096) (hs : SlF w AV L) (htx : ∀ f ∈ L, f.tx.size ≤ 1000000) (hF : -9223372036854775808 ≤ F) (hTT : T ≤ 9223372036854775807) (hT : Tab w) :
    Calls Tryz.prog 19 #[.agg #[.slice AV L.length cV], .int .u32 pe, .agg #[.int .i64 F, .int .i64 T]] w fun e w' => (∃ A c, e = .returned (.tuple #[.slice A (ofL (lsOf L pe) F T).length c, .int .i64 (ofE F T)]) ∧ OwnO (lsOf L pe) w.heap.size (.slice A (ofL (lsOf L pe) F T).length c) (ofL (lsOf L pe) F T) w') ∧ Below w.heap.size w w' := by
  obtain ⟨vb, hvb⟩ : ∃ x, w.heap.size = x := ⟨_, rfl⟩
  obtain ⟨sb, hsb⟩ : ∃ x, vb + 1 = x := ⟨_, rfl⟩
  obtain ⟨w2, hw2⟩ : ∃ x, (w.alloc (.cells #[.slice AV L.length cV] 27)).alloc (.cells #[.int .i64 F, .int .i64 T] 31) = x := ⟨_, rfl⟩
  obtain ⟨k1, k2, hb2⟩ := bkk2 w _ _ _ _ hvb hsb hw2
  have HB2 := Lib.hid hb2
  have HSP : Hid (Bk sb 31 #[.int .i64 F, .int .i64 T] w2) := Lib.hid k2
  have HC : Hid (∀ W, Below w2.heap.size w2 W → W.cell? ⟨vb, 0, none⟩ = some (.slice AV L.length cV) ∧ W.cell? ⟨sb, 0, none⟩ = some (.int .i64 F) ∧ W.cell? ⟨sb, 1, none⟩ = some (.int .i64 T) ∧ Tab W) := Lib.hid fun W hW => ⟨bCell hW (k1.cell 0), bCell hW (k2.cell 0), bCell hW (k2.cell 1), ⟨Nat.lt_of_lt_of_le hT.1 (bTrans hb2 hW).size, fun i hi => bCell (bTrans hb2 hW) (hT.2 i hi)⟩⟩
  have HLI : Hid (∀ W, Below w2.heap.size w2 W → Calls Tryz.prog 56 #[.agg #[.slice AV L.length cV], .int .u32 pe] W fun e w' => ∃ mb V, e = .returned (.map (some mb)) ∧ LinesAt (lsOf L pe) mb V w' ∧ Below W.heap.size W w') := Lib.hid fun W hW => tm_lines L AV cV pe W hn (hs.below (bTrans hb2 hW))
  obtain ⟨X, hX⟩ : ∃ X, lsOf L pe = X := ⟨_, rfl⟩
  have hXl : ∀ i, i < 5 → (X.at_ i).length ≤ 4096 := fun i hi => by rw [← hX, lsOf_at L pe hi]; exact Nat.le_trans (chosen_len _ _ _) hn
  have HXL := Lib.hid hXl
  have HXT : Hid (∀ x ∈ X.d, x.2.tx.size ≤ 1000000) := Lib.hid fun x hx => by
    rw [← hX] at hx
    obtain ⟨i, _, _, h, _⟩ := mem_chosen hx
    exact htx _ (List.mem_of_getElem? h)
  rw [hX] at HLI ⊢
  obtain ⟨c1, c2, hc⟩ : ∃ a b, crossS F T (-25567) 84006 = (a, b) := ⟨_, _, rfl⟩
  have HCR : Hid (∀ W, Calls Tryz.prog 54 #[.agg #[.int .i64 F, .int .i64 T], .agg #[.int .i64 (-25567), .int .i64 84006]] W fun e w' => e = .returned (.agg #[.int .i64 c1, .int .i64 c2]) ∧ Below W.heap.size W w') := Lib.hid fun W => by
    have := sp_Cross F T (-25567) 84006 W
    rwa [hc] at this
  obtain ⟨nb, hnb⟩ : ∃ z, (!(decide (c1 = F) && decide (c2 = T))) = z := ⟨_, rfl⟩
  have hq : ∀ W : World, (binOp .neq 31 (.agg #[.int .i64 c1, .int .i64 c2]) (.agg #[.int .i64 F, .int .i64 T])).run Tryz.prog W = .ok (.bool nb) W := fun W => by rw [run_neS, hnb]
  have HNB : Hid (F < T → decide (-25567 ≤ F ∧ T ≤ 84006) = !nb) := Lib.hid fun h => by rw [cross_in h hc, ← hnb, Bool.not_not]
  have HLEN := Lib.hid (sp_Length F T w2 hF hTT)
  obtain ⟨ln, hln⟩ : ∃ z, lenS F T = z := ⟨_, rfl⟩
  rw [hln] at HLEN
  have HLN : Hid (lenS F T = ln) := Lib.hid hln
  have HE2 := Lib.hid (And.intro hvb (And.intro hsb hw2))
  have HVS : Hid (w.heap.size ≤ sb) := Lib.hid (by omega)
  clear hvb hsb hw2 k1 k2 hb2 hs hT hX hn hXl htx hc hnb hln
  go_enter Tryz.func19, Tryz.ntmps19
  go_upto_region 1 with fail
  rw [HE2.out.1, HE2.out.2.1, HE2.out.2.2]
  clear HE2
  obtain ⟨C0, C1, C2, _⟩ := HC.out w2 (Below.refl _ _)
  go_wp2_with fail
  refine HLEN.out.mono ?_
  rintro e w3 ⟨rfl, hb3⟩
  have HB3 := Lib.hid hb3
  clear hb3 HLEN C0 C1 C2
  by_cases hTF : T ≤ F
  · have b0 : (ln == 0) = true := by rw [← HLN.out]; unfold lenS; rw [if_pos hTF]; rfl
    have HO : Hid (ofL X F T = [] ∧ ofE F T = 0) := Lib.hid ⟨if_pos hTF, if_pos hTF⟩
    clear hTF hq HLN
    go_wp2
    go_ret2
    exact ⟨⟨none, 0, by rw [HO.out.1, HO.out.2]; rfl, by rw [HO.out.1]; exact Own.nil _⟩, bTrans HB2.out HB3.out⟩
  have b0 : (ln == 0) = false := by
    rw [← HLN.out]; unfold lenS; rw [if_neg hTF]
    exact beq_eq_false_iff_ne.2 (by omega)
  have HTF : Hid (F < T) := Lib.hid (by omega)
  clear hTF HLN
  go_upto_region 3 with fail
  go_cut [24] from 20 to 24 (fun q wx => q = .bool nb ∧ Hid (Below w3.heap.size w3 wx))
  case first =>
    have HC0 := HC
    clear HC
    have HC : Hid (∀ W, Below w3.heap.size w3 W → W.cell? ⟨vb, 0, none⟩ = some (.slice AV L.length cV) ∧ W.cell? ⟨sb, 0, none⟩ = some (.int .i64 F) ∧ W.cell? ⟨sb, 1, none⟩ = some (.int .i64 T) ∧ Tab W) := Lib.hid fun W hW => HC0.out W (bTrans HB3.out hW)
    refine wp_region_use (SPS [(5, Sp.val (.pointer (some ⟨sb, 0, none⟩))), (20, Sp.val (.agg #[.int .i64 F, .int .i64 T])), (21, Sp.val (.agg #[.int .i64 (-25567), .int .i64 84006])), (22, Sp.val (.agg #[.int .i64 c1, .int .i64 c2])), (23, Sp.val (.agg #[.int .i64 F, .int .i64 T])), (24, Sp.val (.bool nb))]) [] [20, 21, 22, 23, 24] rfl (by rfl) (by kernel_rfl) (SPS.st _) (by rfl) ?_ (opsK_all ?_) ?_
    · exact sps_start (cons_all rfl (nil_all))
    · refine opsK_cons (by
       exact use_s [] (opOk_load (p := ⟨sb, 0, none⟩) rfl rfl (.inl rfl) (by kernel_rfl) (fun _ _ h => h.get rfl) (fun W hW => by
          obtain ⟨k0, k1, k2, _⟩ := HC.out _ hW
          exact ⟨.agg #[.int .i64 F, .int .i64 T], by go_simp, sps rfl rfl⟩)) (by kernel_rfl) (by rfl)) ?_
      refine opsK_cons (by
       exact use_s [] (opOk_callg (fun a => #[]) rfl rfl (.inl rfl) (fun a => by simp only [List.map_toArray, List.map_nil] <;> rfl) (fun args W => by go_simp) (fun a W hW hsp => by
          
          exact (tm_calendar _ (HC.out _ hW).2.2.2).mono fun e w' ⟨he, hb⟩ => ⟨_, he, hb, sps rfl rfl⟩)) (by kernel_rfl) (by rfl)) ?_
      refine opsK_cons (by
       exact use_s [] (opOk_callg (fun a => #[a.eval (.tmp 20), a.eval (.tmp 21)]) rfl rfl (.inl rfl) (fun a => by simp only [List.map_toArray, List.map_cons, List.map_nil] <;> rfl) (fun args W => by go_simp) (fun a W hW hsp => by
          have e20 : a.eval (.tmp 20) = .agg #[.int .i64 F, .int .i64 T] := (hsp 20 (by kernel_rfl)).get rfl
          have e21 : a.eval (.tmp 21) = .agg #[.int .i64 (-25567), .int .i64 84006] := (hsp 21 (by kernel_rfl)).get rfl
          simp only [e20, e21]
          exact (HCR.out _).mono fun e w' ⟨he, hb⟩ => ⟨_, he, hb, sps rfl rfl⟩)) (by kernel_rfl) (by rfl)) ?_
      refine opsK_cons (by
       exact use_s [] (opOk_load (p := ⟨sb, 0, none⟩) rfl rfl (.inl rfl) (by kernel_rfl) (fun _ _ h => h.get rfl) (fun W hW => by
          obtain ⟨k0, k1, k2, _⟩ := HC.out _ hW
          exact ⟨.agg #[.int .i64 F, .int .i64 T], by go_simp, sps rfl rfl⟩)) (by kernel_rfl) (by rfl)) ?_
      refine opsK_cons (by
       exact use_s [] (opOk_run rfl (.inl rfl) (fun a W hW hsp => by
          have e22 : a.eval (.tmp 22) = .agg #[.int .i64 c1, .int .i64 c2] := (hsp 22 (by kernel_rfl)).get rfl
          have e23 : a.eval (.tmp 23) = .agg #[.int .i64 F, .int .i64 T] := (hsp 23 (by kernel_rfl)).get rfl
          refine ⟨.bool nb, ?_, sps rfl rfl⟩
          unfold execOp
          simp only [e22, e23]
          go_simp)) (by kernel_rfl) (by rfl)) ?_
      exact opsK_nil
    · intro vs W3 hb hsp
      have z24 := (hsp 24 (by simp)).get rfl
      simp only [putAll]
      go_simp
      go_step
      go_meet
      exact ⟨by first | rfl | exact z24, Lib.hid hb⟩
  case rest =>
    obtain ⟨rfl, HX4⟩ := hcut
    obtain ⟨w4, rfl⟩ : ∃ x : World, x = wc := ⟨_, rfl⟩
    have HB4 : Hid (Below w2.heap.size w2 w4) := Lib.hid (bTrans HB3.out HX4.out)
    clear HX4 HB3 hq HCR
    cases nb with
    | true =>
      have HO : Hid (ofL X F T = [] ∧ ofE F T = 24) := Lib.hid (of_out HTF.out (of_decide_eq_false (HNB.out HTF.out)))
      go_wp2
      go_ret2
      exact ⟨⟨none, 0, by rw [HO.out.1, HO.out.2]; rfl, by rw [HO.out.1]; exact Own.nil _⟩, bTrans HB2.out HB4.out⟩
    | false =>
      have HO : Hid (ofL X F T = runsOf (eT X) F T ∧ ofE F T = 0) := Lib.hid (of_in HTF.out (of_decide_eq_true (HNB.out HTF.out)))
      obtain ⟨C0, C1, C2, _⟩ := HC.out w4 HB4.out
      go_wp2_with fail
      refine (HLI.out w4 HB4.out).mono ?_
      rintro e w5 ⟨mb, V, rfl, hl5, hb5⟩
      have HL5 := Lib.hid hl5
      have HB5 : Hid (Below w2.heap.size w2 w5) := Lib.hid (bTrans HB4.out hb5)
      have hm5 := hl5.map
      clear hl5 hb5 C0 C1 C2
      go_wp2_with (at_range; refine wpList_range_own _ rfl _ 130 rfl 3 133 keyI Tryz.underlying130 heldR mb 5 (lnD V 5) rfl hm5 ?_)
      intro w6 hrg6 hg6 hs6
      obtain ⟨r, hr⟩ : ∃ z, w5.heap.size = z := ⟨_, rfl⟩
      rw [hr] at hrg6 ⊢
      obtain ⟨B, hB⟩ : ∃ z, w6.heap.size = z := ⟨_, rfl⟩
      have hb6 := gBel hg6
      have HI6 : Hid (OfI w B mb r sb X V F T w6) := Lib.hid ⟨bTrans HB2.out (bTrans HB5.out hb6), Nat.le_of_eq hB.symm, bk_bel (bk_bel HSP.out HB5.out) hb6, fun i hi => by
        obtain ⟨A, c, h1, h2⟩ := HL5.out.line i hi
        exact ⟨A, c, h1, by rw [← hB]; exact sl_bel h2 hb6⟩, by
        have h1 := (bTrans HB2.out HB5.out).size
        have h2 := hb6.size
        have h3 := HSP.out.lt
        have h4 := HB5.out.size
        have h5 := HL5.out.map.lt
        omega⟩
      have HR6 : Hid (Rng w6 mb r V (has (lnD V 5)) (size (lnD V 5))) := Lib.hid hrg6
      have HS6 : Hid (size (lnD V 5) ≤ 5) := Lib.hid (map_size HL5.out.map)
      clear hm5 hrg6 hg6 hs6 hr hB hb6
      go_wp2
      go_loopw [9] (fun cv wr => ∃ (C : List Int) (left : Lit → Bool) (cnt : Nat), Hid (Rng wr mb r V left cnt) ∧ (∃ A c, cv = .slice A C.length c ∧ Hid (OwnDd B (.slice A C.length c) C wr)) ∧ Hid (OfI w B mb r sb X V F T wr) ∧ Hid (ChgI X F T left C) ∧ Hid (C.length ≤ 10001 * (5 - cnt) ∧ cnt ≤ 5)) (fun _ wr => wr.rangeLeft mb r)
      case atStart => exact ⟨[], _, _, HR6, ⟨none, 0, rfl, Lib.hid (Own.nil _)⟩, HI6, Lib.hid (ChgI.start X F T V []), Lib.hid ⟨Nat.zero_le _, HS6.out⟩⟩
      case round =>
        obtain ⟨C, left, cnt, HR, ⟨Ac, cc, rfl, HO⟩, HI, HG, HN⟩ := hrel
        clear HR6 HI6 HL5 HS6
        have hhl := HG.out.2
        have hhv : ∀ i, i < 5 → ∃ A c, V i = .agg #[.slice A (X.at_ i).length c] := fun i hi => by
          obtain ⟨A, c, h1, _⟩ := HI.out.line i hi
          exact ⟨A, c, h1⟩
        have hhr := HR.out
        go_wp2_with (at_next; refine wp_next_lines _ rfl _ rfl rfl hhr hhl hhv ?_ ?_)
        · intro hc0 hl0
          have HCA : Hid (∀ c, chgA X F T c → c ∈ C) := Lib.hid (HG.out.done hl0)
          have HL7 : Hid (LinesAt X mb V wr) := Lib.hid ⟨hhr.owns, fun i hi => by
            obtain ⟨A, c, h1, h2⟩ := HI.out.line i hi
            exact ⟨A, c, h1, sl_more h2 HI.out.size⟩⟩
          have HB7 : Hid (Below w.heap.size w wr) := Lib.hid HI.out.below
          have S0 : wr.cell? ⟨sb, 0, none⟩ = some (.int .i64 F) := HI.out.sp.cell 0
          have S1 : wr.cell? ⟨sb, 1, none⟩ = some (.int .i64 T) := HI.out.sp.cell 1
          obtain ⟨w7, rfl⟩ : ∃ x : World, x = wr := ⟨_, rfl⟩
          obtain ⟨P, hP⟩ : ∃ P, piecesS F T C = P := ⟨_, rfl⟩
          have hPl : P.length ≤ 60000 := by
            rw [← hP]
            have h1 := pieces_len F T C
            have h2 := HN.out
            omega
          have hCl : C.length ≤ 100000 := by have h2 := HN.out; omega
          have HPC := Lib.hid (sp_Pcs F T C Ac cc B w7 hCl HO.out)
          rw [hP] at HPC
          have HRUN : Hid (P.foldl (mrgS (eT X)) [] = runsOf (eT X) F T) := Lib.hid (by rw [← hP]; exact ofT_runs HTF.out HCA.out)
          clear hhl hhv hhr hc0 hl0 HR HO HI HG HN hP hCl HCA
          go_wp2_with fail
          refine HPC.out.mono ?_
          rintro e w8 ⟨A8, c8, rfl, hb8, hs8⟩
          have HB8 : Hid (Below w.heap.size w w8) := Lib.hid (HB7.out.trans (hb8.mono HB7.out.size))
          have HL8 : Hid (LinesAt X mb V w8) := Lib.hid (HL7.out.below hb8)
          have HP8 : Hid (∀ W, Below w8.heap.size w8 W → Sl encSp 2 W W.heap.size A8 P) := Lib.hid fun W hW => sl_bel hs8 hW
          have HON : Hid (∀ d W, Below w8.heap.size w8 W → Calls Tryz.prog 59 #[.map (some mb), .int .i64 d] W fun e w' => e = .returned (.agg (tdC (onX X d))) ∧ Below W.heap.size W w') := Lib.hid fun d W hW => tm_on X mb V d W (fun i hi => Nat.le_trans (HXL.out i hi) (by decide)) HXT.out (HL8.out.below hW)
          clear hb8 hs8 HL7 HB7 HL8 HPC S0 S1
          go_wp2
          go_loopw [12, 43] (fun ov iv wr => ∃ k : Nat, k ≤ P.length ∧ iv = .int .i64 k ∧ (∃ A c, ov = .slice A ((P.take k).foldl (mrgS (eT X)) []).length c ∧ Hid (OwnO X w8.heap.size (.slice A ((P.take k).foldl (mrgS (eT X)) []).length c) ((P.take k).foldl (mrgS (eT X)) []) wr)) ∧ Hid (Below w8.heap.size w8 wr)) (fun _ iv _ => P.length - (intOf iv).toNat)
          case atStart => exact ⟨0, Nat.zero_le _, rfl, ⟨none, 0, rfl, Lib.hid (Own.nil _)⟩, Lib.hid (Below.refl _ _)⟩
          case round =>
            obtain ⟨k, hk, rfl, ⟨Ao, co, rfl, HOW⟩, HB⟩ := hrel
            by_cases hlt : k < P.length
            · obtain ⟨x, hx⟩ : ∃ x, P[k]? = some x := ⟨_, List.getElem?_eq_getElem hlt⟩
              obtain ⟨b, off, rfl, hbl, hat⟩ := HP8.out wr HB.out (by intro h; simp [h] at hlt)
              have G0 := hat k x hx 0 _ rfl
              have G1 := hat k x hx 1 _ rfl
              simp only [Nat.add_zero] at G0
              have hlt2 : (k : Int) < (P.length : Int) := by omega
              have HTK := Lib.hid (mrg_take (e := eT X) hx)
              have hOl : ((P.take k).foldl (mrgS (eT X)) []).length ≤ 60000 := by
                have h1 := mrg_len (eT X) (P.take k) []
                simp only [List.length_take, List.length_nil] at h1
                omega
              obtain ⟨O, hO⟩ : ∃ O, (P.take k).foldl (mrgS (eT X)) [] = O := ⟨_, rfl⟩
              rw [hO] at HOW HTK hOl ⊢
              obtain ⟨pb, hpb⟩ : ∃ z, wr.heap.size = z := ⟨_, rfl⟩
              obtain ⟨w9, hw9⟩ : ∃ z, wr.alloc (.cells #[.int .i64 x.1, .int .i64 x.2] 31) = z := ⟨_, rfl⟩
              have hb9 : Below wr.heap.size wr w9 := by rw [← hw9]; exact bAlloc _ _
              have hk9 : Bk pb 31 #[.int .i64 x.1, .int .i64 x.2] w9 := by rw [← hw9, ← hpb]; exact Bk.new _ _ _
              have P0 : w9.cell? ⟨pb, 0, none⟩ = some (.int .i64 x.1) := hk9.cell 0
              have HK9 := Lib.hid hk9
              have HE := Lib.hid (And.intro hpb hw9)
              have HB9 : Hid (Below w8.heap.size w8 w9) := Lib.hid (bTrans HB.out hb9)
              have HOW9 := Lib.hid (own_bel HOW.out hb9)
              clear hat hx hO hpb hw9 hk9 hb9 HOW HB
              go_upto_region 15 with fail
              rw [HE.out.1, HE.out.2]
              clear G0 G1 HE
              obtain ⟨t, ht⟩ : ∃ t, onX X x.1 = t := ⟨_, rfl⟩
              have HON9 : Hid (Calls Tryz.prog 59 #[.map (some mb), .int .i64 x.1] w9 fun e w' => e = .returned (.agg (tdC t)) ∧ Below w9.heap.size w9 w') := Lib.hid (by rw [← ht]; exact HON.out x.1 w9 HB9.out)
              have HT := Lib.hid ht
              clear ht
              go_wp2_with fail
              refine HON9.out.mono ?_
              rintro e w10 ⟨rfl, hb10⟩
              obtain ⟨tb, htb⟩ : ∃ z, w10.heap.size = z := ⟨_, rfl⟩
              obtain ⟨w11, hw11⟩ : ∃ z, w10.alloc (.cells #[.int .i64 t.fr, .int .i64 t.to, .bool t.em, .int .i64 t.sa, .int .i64 t.pa, .int .i64 (t.h 0), .int .i64 (t.h 1), .int .i64 (t.h 2), .int .i64 (t.h 3), .int .i64 (t.h 4), .int .i64 (t.h 5), .int .i64 (t.h 6), .string t.co] 50) = z := ⟨_, rfl⟩
              have hb11 : Below w9.heap.size w9 w11 := by rw [← hw11]; exact bTrans hb10 (bAlloc _ _)
              have hk11 : Bk tb 50 #[.int .i64 t.fr, .int .i64 t.to, .bool t.em, .int .i64 t.sa, .int .i64 t.pa, .int .i64 (t.h 0), .int .i64 (t.h 1), .int .i64 (t.h 2), .int .i64 (t.h 3), .int .i64 (t.h 4), .int .i64 (t.h 5), .int .i64 (t.h 6), .string t.co] w11 := by rw [← hw11, ← htb]; exact Bk.new _ _ _
              have HK11 := Lib.hid hk11
              have HP11 : Hid (Bk pb 31 #[.int .i64 x.1, .int .i64 x.2] w11) := Lib.hid (bk_bel HK9.out hb11)
              have HOW11 := Lib.hid (own_bel HOW9.out hb11)
              have HB11 : Hid (Below w8.heap.size w8 w11) := Lib.hid (bTrans HB9.out hb11)
              have HTB : Hid (w9.heap.size ≤ tb ∧ w8.heap.size ≤ tb ∧ pb < tb) := Lib.hid ⟨by rw [← htb]; exact hb10.size, by rw [← htb]; exact Nat.le_trans HB9.out.size hb10.size, by rw [← htb]; exact Nat.lt_of_lt_of_le HK9.out.lt hb10.size⟩
              have HOB : Hid (∀ j, (Value.slice Ao O.length co).ownBlock = some j → j < w9.heap.size) := Lib.hid fun j hj => (Own.lt HOW9.out hj).2
              have HE := Lib.hid (And.intro htb hw11)
              clear htb hw11 hb10 hb11 hk11 HON9 HK9 HOW9 HB9 P0
              unfold tdC
              go_upto_region 16 with fail
              rw [HE.out.1, HE.out.2]
              clear HE
              have HRO : Hid (RoI X w8 pb tb (.slice Ao O.length co) O x t t.fr t.to w11) := Lib.hid ⟨HOW11.out, HK11.out, HP11.out, HB11.out, HTB.out.2.1, by have := HTB.out; omega, fun h => by have h1 := HOB.out tb h; have h2 := HTB.out; omega⟩
              clear HK11 HP11 HOW11 HB11 HTB HOB
              have PP0 : w11.cell? ⟨pb, 0, none⟩ = some (.int .i64 x.1) := HRO.out.pk.cell 0
              have PP1 : w11.cell? ⟨pb, 1, none⟩ = some (.int .i64 x.2) := HRO.out.pk.cell 1
              have TT0 : w11.cell? ⟨tb, 0, none⟩ = some (.int .i64 t.fr) := HRO.out.tk.cell 0
              have TT1 : w11.cell? ⟨tb, 1, none⟩ = some (.int .i64 t.to) := HRO.out.tk.cell 1
              have TT2 : w11.cell? ⟨tb, 2, none⟩ = some (.bool t.em) := HRO.out.tk.cell 2
              have TT3 : w11.cell? ⟨tb, 3, none⟩ = some (.int .i64 t.sa) := HRO.out.tk.cell 3
              have TT4 : w11.cell? ⟨tb, 4, none⟩ = some (.int .i64 t.pa) := HRO.out.tk.cell 4
              have TT5 : w11.cell? ⟨tb, 5, none⟩ = some (.int .i64 (t.h 0)) := HRO.out.tk.cell 5
              have TT6 : w11.cell? ⟨tb, 6, none⟩ = some (.int .i64 (t.h 1)) := HRO.out.tk.cell 6
              have TT7 : w11.cell? ⟨tb, 7, none⟩ = some (.int .i64 (t.h 2)) := HRO.out.tk.cell 7
              have TT8 : w11.cell? ⟨tb, 8, none⟩ = some (.int .i64 (t.h 3)) := HRO.out.tk.cell 8
              have TT9 : w11.cell? ⟨tb, 9, none⟩ = some (.int .i64 (t.h 4)) := HRO.out.tk.cell 9
              have TT10 : w11.cell? ⟨tb, 10, none⟩ = some (.int .i64 (t.h 5)) := HRO.out.tk.cell 10
              have TT11 : w11.cell? ⟨tb, 11, none⟩ = some (.int .i64 (t.h 6)) := HRO.out.tk.cell 11
              have TT12 : w11.cell? ⟨tb, 12, none⟩ = some (.string t.co) := HRO.out.tk.cell 12
              have TTF0 : w11.frozen? ⟨tb, 0, none⟩ = false := HRO.out.tk.frozen 0
              have TTF1 : w11.frozen? ⟨tb, 1, none⟩ = false := HRO.out.tk.frozen 1
              rcases O.eq_nil_or_concat with hO | ⟨Q, q, hO⟩
              · subst hO
                have HV : Hid ((P.take (k + 1)).foldl (mrgS (eT X)) [] = [x]) := Lib.hid HTK.out
                obtain ⟨w14, hw14⟩ : ∃ z, (w11.setCell ⟨tb, 0, none⟩ (.int .i64 x.1)).setCell ⟨tb, 1, none⟩ (.int .i64 x.2) = z := ⟨_, rfl⟩
                have HRw14 : Hid (RoI X w8 pb tb (.slice Ao 0 co) [] x t x.1 x.2 w14) := Lib.hid (by rw [← hw14]; exact HRO.out.set_ x.1 x.2)
                have HEw14 := Lib.hid hw14
                clear hw14
                go_upto_region 22 with fail
                rw [HEw14.out]
                clear HEw14 PP0 PP1 TT0 TT1 TT2 TT3 TT4 TT5 TT6 TT7 TT8 TT9 TT10 TT11 TT12 TTF0 TTF1
                have T0 : w14.cell? ⟨tb, 0, none⟩ = some (.int .i64 x.1) := HRw14.out.tk.cell 0
                have T1 : w14.cell? ⟨tb, 1, none⟩ = some (.int .i64 x.2) := HRw14.out.tk.cell 1
                have T2 : w14.cell? ⟨tb, 2, none⟩ = some (.bool t.em) := HRw14.out.tk.cell 2
                have T3 : w14.cell? ⟨tb, 3, none⟩ = some (.int .i64 t.sa) := HRw14.out.tk.cell 3
                have T4 : w14.cell? ⟨tb, 4, none⟩ = some (.int .i64 t.pa) := HRw14.out.tk.cell 4
                have T5 : w14.cell? ⟨tb, 5, none⟩ = some (.int .i64 (t.h 0)) := HRw14.out.tk.cell 5
                have T6 : w14.cell? ⟨tb, 6, none⟩ = some (.int .i64 (t.h 1)) := HRw14.out.tk.cell 6
                have T7 : w14.cell? ⟨tb, 7, none⟩ = some (.int .i64 (t.h 2)) := HRw14.out.tk.cell 7
                have T8 : w14.cell? ⟨tb, 8, none⟩ = some (.int .i64 (t.h 3)) := HRw14.out.tk.cell 8
                have T9 : w14.cell? ⟨tb, 9, none⟩ = some (.int .i64 (t.h 4)) := HRw14.out.tk.cell 9
                have T10 : w14.cell? ⟨tb, 10, none⟩ = some (.int .i64 (t.h 5)) := HRw14.out.tk.cell 10
                have T11 : w14.cell? ⟨tb, 11, none⟩ = some (.int .i64 (t.h 6)) := HRw14.out.tk.cell 11
                have T12 : w14.cell? ⟨tb, 12, none⟩ = some (.string t.co) := HRw14.out.tk.cell 12
                have HSZ : Hid (w8.heap.size ≤ w14.heap.size) := Lib.hid HRw14.out.below.size
                have HNW : Hid (∀ j u, (encO X x)[j]? = some u → (w14.alloc (.cells #[.int .i64 x.1, .int .i64 x.2, .bool t.em, .int .i64 t.sa, .int .i64 t.pa, .int .i64 (t.h 0), .int .i64 (t.h 1), .int .i64 (t.h 2), .int .i64 (t.h 3), .int .i64 (t.h 4), .int .i64 (t.h 5), .int .i64 (t.h 6), .string t.co] 50)).cell? ⟨w14.heap.size, j, none⟩ = some u) := Lib.hid fun j u hu => by
                  unfold encO at hu
                  rw [HT.out] at hu
                  exact newsT t x.1 x.2 w14 j u hu
                go_wp2_with ((at_builtin; refine wpList_append_row (encO_len X) (encO_one X) rfl _ _ 34 rfl w8.heap.size 50 _ 112 Tryz.underlying34 termsInfo rfl (by decide) _ [] x rfl (HRw14.out.own.alloc _) w14.heap.size 1 rfl HNW.out (by simp) (by decide) (Nat.le_trans HSZ.out (Grows.of_alloc w14 _).size) ?_))
                intro v15 w15 hown15 hgr15
                have HB15 : Hid (Below w8.heap.size w8 w15) := Lib.hid (bel_own (HRw14.out.below.trans ((bAlloc w14 _).mono HSZ.out)) (Nat.le_trans HSZ.out (Grows.of_alloc w14 _).size) (HRw14.out.own.alloc _) hgr15)
                have HO15 := Lib.hid hown15
                clear hown15 hgr15 T0 T1 T2 T3 T4 T5 T6 T7 T8 T9 T10 T11 T12
                go_wp2
                exact ⟨⟨k + 1, by omega, by go_num, by
                  rw [HV.out]
                  exact slO HO15.out, HB15⟩, by simp [intOf]; omega⟩
              · rw [List.concat_eq_append] at hO
                subst hO
                have hlen : (Q ++ [q]).length = Q.length + 1 := by simp
                rw [hlen] at HRO hOl ⊢
                clear hlen
                obtain ⟨g, rfl, hg1, hg2, hc, hrow⟩ := lastOfO HRO.out.own
                obtain ⟨tq, htq⟩ : ∃ z, onX X q.1 = z := ⟨_, rfl⟩
                have hcq : encO X q = (tdC { tq with fr := q.1, «to» := q.2 }).toList := by unfold encO; rw [htq]
                rw [hcq] at hc
                have D0 : w11.cell? ⟨g, Q.length * 13, none⟩ = some (.int .i64 q.1) := hc 0 _ rfl
                have D1 : w11.cell? ⟨g, Q.length * 13 + 1, none⟩ = some (.int .i64 q.2) := hc 1 _ rfl
                obtain ⟨eqb, heqb⟩ : ∃ z, eqTd t tq = z := ⟨_, rfl⟩
                have hq : ∀ W : World, (binOp .eql 50 (.agg #[.int .i64 q.1, .int .i64 q.2, .bool t.em, .int .i64 t.sa, .int .i64 t.pa, .int .i64 (t.h 0), .int .i64 (t.h 1), .int .i64 (t.h 2), .int .i64 (t.h 3), .int .i64 (t.h 4), .int .i64 (t.h 5), .int .i64 (t.h 6), .string t.co]) (.agg #[.int .i64 q.1, .int .i64 q.2, .bool tq.em, .int .i64 tq.sa, .int .i64 tq.pa, .int .i64 (tq.h 0), .int .i64 (tq.h 1), .int .i64 (tq.h 2), .int .i64 (tq.h 3), .int .i64 (tq.h 4), .int .i64 (tq.h 5), .int .i64 (tq.h 6), .string tq.co])).run Tryz.prog W = .ok (.bool eqb) W := fun W => by rw [run_eqT, heqb]
                have HEQ : Hid (eT X q.1 x.1 = eqb) := Lib.hid (by rw [(eT_eqv X).symm, ← heqb, eqTd_key]; unfold eT; rw [HT.out, htq])
                have HCQ := Lib.hid hcq
                have HG := Lib.hid (And.intro hg1 hg2)
                have hi1 : (Q.length : Int) < (Q.length : Int) + 1 := by omega
                have hi2 : Q.length < Q.length + 1 := by omega
                have hi3 : ¬ ((Q.length : Int) < 0) := by omega
                have hi4 : (0 : Int) ≤ (Q.length : Int) := by omega
                obtain ⟨w12, hw12⟩ : ∃ z, (w11.setCell ⟨tb, 0, none⟩ (.int .i64 q.1)).setCell ⟨tb, 1, none⟩ (.int .i64 q.2) = z := ⟨_, rfl⟩
                have HR12 : Hid (RoI X w8 pb tb (.slice (some ⟨g, 0, none⟩) (Q.length + 1) co) (Q ++ [q]) x t q.1 q.2 w12) := Lib.hid (by rw [← hw12]; exact HRO.out.set_ q.1 q.2)
                have HE12 := Lib.hid hw12
                clear hc hrow htq hcq heqb hg1 hg2 hw12
                go_upto_region 19 with fail
                rw [HE12.out]
                clear HE12 HRO D0 D1 PP0 PP1 TT0 TT1 TT2 TT3 TT4 TT5 TT6 TT7 TT8 TT9 TT10 TT11 TT12 TTF0 TTF1
                obtain ⟨g', hgg, _, _, hc, _⟩ := lastOfO HR12.out.own
                injection hgg with hgg
                injection hgg with hgg _ _
                subst hgg
                rw [HCQ.out] at hc
                have D0 : w12.cell? ⟨g, Q.length * 13, none⟩ = some (.int .i64 q.1) := hc 0 _ rfl
                have D1 : w12.cell? ⟨g, Q.length * 13 + 1, none⟩ = some (.int .i64 q.2) := hc 1 _ rfl
                have D2 : w12.cell? ⟨g, Q.length * 13 + 2, none⟩ = some (.bool tq.em) := hc 2 _ rfl
                have D3 : w12.cell? ⟨g, Q.length * 13 + 3, none⟩ = some (.int .i64 tq.sa) := hc 3 _ rfl
                have D4 : w12.cell? ⟨g, Q.length * 13 + 4, none⟩ = some (.int .i64 tq.pa) := hc 4 _ rfl
                have D5 : w12.cell? ⟨g, Q.length * 13 + 5, none⟩ = some (.int .i64 (tq.h 0)) := hc 5 _ rfl
                have D6 : w12.cell? ⟨g, Q.length * 13 + 6, none⟩ = some (.int .i64 (tq.h 1)) := hc 6 _ rfl
                have D7 : w12.cell? ⟨g, Q.length * 13 + 7, none⟩ = some (.int .i64 (tq.h 2)) := hc 7 _ rfl
                have D8 : w12.cell? ⟨g, Q.length * 13 + 8, none⟩ = some (.int .i64 (tq.h 3)) := hc 8 _ rfl
                have D9 : w12.cell? ⟨g, Q.length * 13 + 9, none⟩ = some (.int .i64 (tq.h 4)) := hc 9 _ rfl
                have D10 : w12.cell? ⟨g, Q.length * 13 + 10, none⟩ = some (.int .i64 (tq.h 5)) := hc 10 _ rfl
                have D11 : w12.cell? ⟨g, Q.length * 13 + 11, none⟩ = some (.int .i64 (tq.h 6)) := hc 11 _ rfl
                have D12 : w12.cell? ⟨g, Q.length * 13 + 12, none⟩ = some (.string tq.co) := hc 12 _ rfl
                have T0 : w12.cell? ⟨tb, 0, none⟩ = some (.int .i64 q.1) := HR12.out.tk.cell 0
                have T1 : w12.cell? ⟨tb, 1, none⟩ = some (.int .i64 q.2) := HR12.out.tk.cell 1
                have T2 : w12.cell? ⟨tb, 2, none⟩ = some (.bool t.em) := HR12.out.tk.cell 2
                have T3 : w12.cell? ⟨tb, 3, none⟩ = some (.int .i64 t.sa) := HR12.out.tk.cell 3
                have T4 : w12.cell? ⟨tb, 4, none⟩ = some (.int .i64 t.pa) := HR12.out.tk.cell 4
                have T5 : w12.cell? ⟨tb, 5, none⟩ = some (.int .i64 (t.h 0)) := HR12.out.tk.cell 5
                have T6 : w12.cell? ⟨tb, 6, none⟩ = some (.int .i64 (t.h 1)) := HR12.out.tk.cell 6
                have T7 : w12.cell? ⟨tb, 7, none⟩ = some (.int .i64 (t.h 2)) := HR12.out.tk.cell 7
                have T8 : w12.cell? ⟨tb, 8, none⟩ = some (.int .i64 (t.h 3)) := HR12.out.tk.cell 8
                have T9 : w12.cell? ⟨tb, 9, none⟩ = some (.int .i64 (t.h 4)) := HR12.out.tk.cell 9
                have T10 : w12.cell? ⟨tb, 10, none⟩ = some (.int .i64 (t.h 5)) := HR12.out.tk.cell 10
                have T11 : w12.cell? ⟨tb, 11, none⟩ = some (.int .i64 (t.h 6)) := HR12.out.tk.cell 11
                have T12 : w12.cell? ⟨tb, 12, none⟩ = some (.string t.co) := HR12.out.tk.cell 12
                clear hc
                go_quiet (fail)
                rename_i nq
                obtain ⟨w13, hw13⟩ : ∃ z, w12.drewN nq = z := ⟨_, rfl⟩
                have HR13 : Hid (RoI X w8 pb tb (.slice (some ⟨g, 0, none⟩) (Q.length + 1) co) (Q ++ [q]) x t q.1 q.2 w13) := Lib.hid (by rw [← hw13]; exact HR12.out.drewN nq)
                rw [hw13]
                clear hw13 HR12 hq D0 D1 D2 D3 D4 D5 D6 D7 D8 D9 D10 D11 D12 T0 T1 T2 T3 T4 T5 T6 T7 T8 T9 T10 T11 T12
                obtain ⟨g', hgg, _, _, hc, hrow⟩ := lastOfO HR13.out.own
                injection hgg with hgg
                injection hgg with hgg _ _
                subst hgg
                rw [HCQ.out] at hc
                have D1 : w13.cell? ⟨g, Q.length * 13 + 1, none⟩ = some (.int .i64 q.2) := hc 1 _ rfl
                have F1 := World.ownsRow.frozenAt hrow (Q.length * 13 + 1)
                have HRW := Lib.hid hrow
                have PP0 : w13.cell? ⟨pb, 0, none⟩ = some (.int .i64 x.1) := HR13.out.pk.cell 0
                have PP1 : w13.cell? ⟨pb, 1, none⟩ = some (.int .i64 x.2) := HR13.out.pk.cell 1
                clear hc hrow
                cases eqb with
                | true =>
                  have HV : Hid ((P.take (k + 1)).foldl (mrgS (eT X)) [] = Q ++ [(q.1, x.2)]) := Lib.hid (by rw [HTK.out, mrgS_snoc, if_pos HEQ.out])
                  have HST : Hid (OwnO X w8.heap.size (.slice (some ⟨g, 0, none⟩) (Q.length + 1) co) (Q ++ [(q.1, x.2)]) (w13.setCell ⟨g, Q.length * 13 + 1, none⟩ (.int .i64 x.2)) ∧ Below w8.heap.size w8 (w13.setCell ⟨g, Q.length * 13 + 1, none⟩ (.int .i64 x.2))) := Lib.hid (by
                    have hst := World.ownsRow.stored HRW.out (Q.length * 13 + 1) (.int .i64 x.2)
                    rw [setLastO] at hst
                    exact ⟨ownLastO hst.1, HR13.out.below.setCell (p := ⟨g, Q.length * 13 + 1, none⟩) HG.out.1 _⟩)
                  go_wp2
                  exact ⟨⟨k + 1, by omega, by go_num, by
                    rw [HV.out]
                    exact slO HST.out.1, Lib.hid HST.out.2⟩, by simp [intOf]; omega⟩
                | false =>
                  have HV : Hid ((P.take (k + 1)).foldl (mrgS (eT X)) [] = Q ++ [q, x]) := Lib.hid (by rw [HTK.out, mrgS_snoc, if_neg (by rw [HEQ.out]; simp)])
                  have TT0 : w13.cell? ⟨tb, 0, none⟩ = some (.int .i64 q.1) := HR13.out.tk.cell 0
                  have TT1 : w13.cell? ⟨tb, 1, none⟩ = some (.int .i64 q.2) := HR13.out.tk.cell 1
                  have TT2 : w13.cell? ⟨tb, 2, none⟩ = some (.bool t.em) := HR13.out.tk.cell 2
                  have TT3 : w13.cell? ⟨tb, 3, none⟩ = some (.int .i64 t.sa) := HR13.out.tk.cell 3
                  have TT4 : w13.cell? ⟨tb, 4, none⟩ = some (.int .i64 t.pa) := HR13.out.tk.cell 4
                  have TT5 : w13.cell? ⟨tb, 5, none⟩ = some (.int .i64 (t.h 0)) := HR13.out.tk.cell 5
                  have TT6 : w13.cell? ⟨tb, 6, none⟩ = some (.int .i64 (t.h 1)) := HR13.out.tk.cell 6
                  have TT7 : w13.cell? ⟨tb, 7, none⟩ = some (.int .i64 (t.h 2)) := HR13.out.tk.cell 7
                  have TT8 : w13.cell? ⟨tb, 8, none⟩ = some (.int .i64 (t.h 3)) := HR13.out.tk.cell 8
                  have TT9 : w13.cell? ⟨tb, 9, none⟩ = some (.int .i64 (t.h 4)) := HR13.out.tk.cell 9
                  have TT10 : w13.cell? ⟨tb, 10, none⟩ = some (.int .i64 (t.h 5)) := HR13.out.tk.cell 10
                  have TT11 : w13.cell? ⟨tb, 11, none⟩ = some (.int .i64 (t.h 6)) := HR13.out.tk.cell 11
                  have TT12 : w13.cell? ⟨tb, 12, none⟩ = some (.string t.co) := HR13.out.tk.cell 12
                  have TTF0 : w13.frozen? ⟨tb, 0, none⟩ = false := HR13.out.tk.frozen 0
                  have TTF1 : w13.frozen? ⟨tb, 1, none⟩ = false := HR13.out.tk.frozen 1
                  obtain ⟨w14, hw14⟩ : ∃ z, (w13.setCell ⟨tb, 0, none⟩ (.int .i64 x.1)).setCell ⟨tb, 1, none⟩ (.int .i64 x.2) = z := ⟨_, rfl⟩
                  have HRw14 : Hid (RoI X w8 pb tb (.slice (some ⟨g, 0, none⟩) (Q.length + 1) co) (Q ++ [q]) x t x.1 x.2 w14) := Lib.hid (by rw [← hw14]; exact HR13.out.set_ x.1 x.2)
                  have HEw14 := Lib.hid hw14
                  clear hw14
                  go_upto_region 22 with fail
                  rw [HEw14.out]
                  clear HEw14 PP0 PP1 TT0 TT1 TT2 TT3 TT4 TT5 TT6 TT7 TT8 TT9 TT10 TT11 TT12 TTF0 TTF1
                  have T0 : w14.cell? ⟨tb, 0, none⟩ = some (.int .i64 x.1) := HRw14.out.tk.cell 0
                  have T1 : w14.cell? ⟨tb, 1, none⟩ = some (.int .i64 x.2) := HRw14.out.tk.cell 1
                  have T2 : w14.cell? ⟨tb, 2, none⟩ = some (.bool t.em) := HRw14.out.tk.cell 2
                  have T3 : w14.cell? ⟨tb, 3, none⟩ = some (.int .i64 t.sa) := HRw14.out.tk.cell 3
                  have T4 : w14.cell? ⟨tb, 4, none⟩ = some (.int .i64 t.pa) := HRw14.out.tk.cell 4
                  have T5 : w14.cell? ⟨tb, 5, none⟩ = some (.int .i64 (t.h 0)) := HRw14.out.tk.cell 5
                  have T6 : w14.cell? ⟨tb, 6, none⟩ = some (.int .i64 (t.h 1)) := HRw14.out.tk.cell 6
                  have T7 : w14.cell? ⟨tb, 7, none⟩ = some (.int .i64 (t.h 2)) := HRw14.out.tk.cell 7
                  have T8 : w14.cell? ⟨tb, 8, none⟩ = some (.int .i64 (t.h 3)) := HRw14.out.tk.cell 8
                  have T9 : w14.cell? ⟨tb, 9, none⟩ = some (.int .i64 (t.h 4)) := HRw14.out.tk.cell 9
                  have T10 : w14.cell? ⟨tb, 10, none⟩ = some (.int .i64 (t.h 5)) := HRw14.out.tk.cell 10
                  have T11 : w14.cell? ⟨tb, 11, none⟩ = some (.int .i64 (t.h 6)) := HRw14.out.tk.cell 11
                  have T12 : w14.cell? ⟨tb, 12, none⟩ = some (.string t.co) := HRw14.out.tk.cell 12
                  have HSZ : Hid (w8.heap.size ≤ w14.heap.size) := Lib.hid HRw14.out.below.size
                  have HNW : Hid (∀ j u, (encO X x)[j]? = some u → (w14.alloc (.cells #[.int .i64 x.1, .int .i64 x.2, .bool t.em, .int .i64 t.sa, .int .i64 t.pa, .int .i64 (t.h 0), .int .i64 (t.h 1), .int .i64 (t.h 2), .int .i64 (t.h 3), .int .i64 (t.h 4), .int .i64 (t.h 5), .int .i64 (t.h 6), .string t.co] 50)).cell? ⟨w14.heap.size, j, none⟩ = some u) := Lib.hid fun j u hu => by
                    unfold encO at hu
                    rw [HT.out] at hu
                    exact newsT t x.1 x.2 w14 j u hu
                  go_wp2_with ((at_builtin; refine wpList_append_row (encO_len X) (encO_one X) rfl _ _ 34 rfl w8.heap.size 50 _ 112 Tryz.underlying34 termsInfo rfl (by decide) _ (Q ++ [q]) x rfl (HRw14.out.own.alloc _) w14.heap.size 1 rfl HNW.out (by simp; omega) (by decide) (Nat.le_trans HSZ.out (Grows.of_alloc w14 _).size) ?_))
                  intro v15 w15 hown15 hgr15
                  have HB15 : Hid (Below w8.heap.size w8 w15) := Lib.hid (bel_own (HRw14.out.below.trans ((bAlloc w14 _).mono HSZ.out)) (Nat.le_trans HSZ.out (Grows.of_alloc w14 _).size) (HRw14.out.own.alloc _) hgr15)
                  have HO15 := Lib.hid hown15
                  clear hown15 hgr15 T0 T1 T2 T3 T4 T5 T6 T7 T8 T9 T10 T11 T12
                  go_wp2
                  exact ⟨⟨k + 1, by omega, by go_num, by
                    rw [HV.out]
                    exact slO HO15.out, HB15⟩, by simp [intOf]; omega⟩
            · obtain rfl : k = P.length := by omega
              rw [List.take_length, HRUN.out] at HOW
              rw [List.take_length, HRUN.out]
              go_wp2
              go_ret2
              exact ⟨⟨Ao, co, by rw [HO.out.1, HO.out.2]; rfl, by rw [HO.out.1]; exact own_down HOW.out HB8.out.size⟩, HB8.out.trans (HB.out.mono HB8.out.size)⟩
        · intro i A c w7 cnt' hi hVi hrg7 hlt7 hg7 hs7 hen
          clear hhl hhv hhr hs7
          have HI7 : Hid (OfI w B mb r sb X V F T w7) := Lib.hid (HI.out.next HR.out.iter hg7)
          have HO7 : Hid (OwnDd B (.slice Ac C.length cc) C w7) := Lib.hid (Own.kept HO.out hg7 (by
            cases hb : (Value.slice Ac C.length cc).ownBlock with
            | none => exact .inl rfl
            | some j =>
              refine .inr fun h => ?_
              have h1 := (Own.lt HO.out hb).1
              have h2 := HI.out.far
              injection h with h
              omega))
          have HR7 := Lib.hid hrg7
          have HRW : Hid (wr.rangeLeft mb r = cnt) := Lib.hid HR.out.left_eq
          have HGG := HG
          obtain ⟨Y, hY⟩ : ∃ Y, X.at_ i = Y := ⟨_, rfl⟩
          have hYl : Y.length ≤ 4096 := by rw [← hY]; exact HXL.out i hi
          obtain ⟨lb, hlb⟩ : ∃ z, w7.heap.size = z := ⟨_, rfl⟩
          obtain ⟨w8, hw8⟩ : ∃ z, w7.alloc (.cells #[.slice A Y.length c] 133) = z := ⟨_, rfl⟩
          have hb8 : Below w7.heap.size w7 w8 := by rw [← hw8]; exact bAlloc _ _
          have hk8 : Bk lb 133 #[.slice A Y.length c] w8 := by rw [← hw8, ← hlb]; exact Bk.new _ _ _
          have L0 : w8.cell? ⟨lb, 0, none⟩ = some (.slice A Y.length c) := hk8.cell 0
          have HI8 : Hid (OfI w B mb r sb X V F T w8) := Lib.hid (HI7.out.bel hb8)
          have S0 : w8.cell? ⟨sb, 0, none⟩ = some (.int .i64 F) := HI8.out.sp.cell 0
          have S1 : w8.cell? ⟨sb, 1, none⟩ = some (.int .i64 T) := HI8.out.sp.cell 1
          have HSL : Hid (SlK1 w8 A Y) := Lib.hid (by
            obtain ⟨A', c', h1, h2⟩ := HI8.out.line i hi
            rw [hVi] at h1
            injection h1 with h1
            injection h1 with h1
            injection h1 with h1 _
            injection h1 with h1 _ _
            rw [← hY, h1]
            exact sl_more h2 HI8.out.size)
          rw [hY] at hen ⊢
          have HYE := Lib.hid hY
          have HE := Lib.hid (And.intro hlb hw8)
          have HB8 := Lib.hid hb8
          clear hrg7 hg7 hVi hY hlb hw8 hk8 hb8 HO HR HI HG
          go_upto_region 10 with fail
          rw [HE.out.1, HE.out.2]
          clear HE hen
          obtain ⟨D, hD⟩ : ∃ D, changesX Y F T = D := ⟨_, rfl⟩
          have HDE := Lib.hid hD
          have hDl : D.length ≤ 10001 := by rw [← hD]; exact changes_len F T hYl
          have HCH := Lib.hid (li_Chg Y F T A c w8 hYl HSL.out)
          rw [hD] at HCH
          clear hD HSL
          go_wp2_with fail
          refine HCH.out.mono ?_
          rintro e w9 ⟨A9, c9, rfl, hb9, hs9⟩
          have HI9 : Hid (OfI w B mb r sb X V F T w9) := Lib.hid (HI8.out.bel hb9)
          have hb79 : Below w7.heap.size w7 w9 := bTrans HB8.out hb9
          have HO9 : Hid (OwnDd B (.slice Ac C.length cc) C w9) := Lib.hid (own_bel HO7.out hb79)
          have HR9 : Hid (Rng w9 mb r V (fun z => left z && !z.sameKey (.int .i64 ((i : Int) + 1))) cnt') := Lib.hid (Rng.bel HR7.out hb79)
          have HS9 := Lib.hid hs9
          have hle : C.length + D.length ≤ 1000000 := by have := HN.out; omega
          have hle2 : C.length + D.length ≤ 10001 * (5 - cnt') ∧ cnt' ≤ 5 := by
            have := HN.out
            have h3 : 5 - cnt + 1 ≤ 5 - cnt' := by omega
            have h4 : 10001 * (5 - cnt + 1) ≤ 10001 * (5 - cnt') := Nat.mul_le_mul_left _ h3
            omega
          have HN9 := Lib.hid hle2
          have HBS : Hid (B ≤ w9.heap.size) := Lib.hid HI9.out.size
          have HCNT : Hid (cnt' < cnt ∧ wr.rangeLeft mb r = cnt) := Lib.hid ⟨hlt7, HRW.out⟩
          clear hb9 hs9 hb79 hle2 HI7 HO7 HR7 HI8 HB8 HCH L0 S0 S1 hYl hlt7 hDl HRW HN
          go_wp2_with (at_builtin; refine wp_appDd rfl _ _ rfl rfl rfl rfl HO9.out HS9.out hle HBS.out ?_)
          intro v10 w10 ho10 hg10
          have hj : ∀ k, (Value.slice Ac C.length cc).ownBlock = some k → B ≤ k := fun k hk => (Own.lt HO9.out hk).1
          have HFIN : Hid (Rng w10 mb r V (fun z => left z && !z.sameKey (.int .i64 ((i : Int) + 1))) cnt' ∧ OwnDd B v10 (C ++ D) w10 ∧ OfI w B mb r sb X V F T w10) := Lib.hid ⟨Rng.app HR9.out HI9.out hj hg10, ho10, HI9.out.app hj hg10⟩
          have HCG : Hid (ChgI X F T (fun z => left z && !z.sameKey (.int .i64 ((i : Int) + 1))) (C ++ D)) := Lib.hid (HGG.out.more hi (by rw [HYE.out, HDE.out]))
          have HLN : Hid ((C ++ D).length ≤ 10001 * (5 - cnt') ∧ cnt' ≤ 5) := Lib.hid ⟨by rw [List.length_append]; exact HN9.out.1, HN9.out.2⟩
          clear ho10 hg10 hj HO9 HS9 hle HBS HI9 HR9 HGG HYE HDE HN9
          go_wp2
          exact ⟨⟨C ++ D, _, cnt', Lib.hid HFIN.out.1, slOf HFIN.out.2.1, Lib.hid HFIN.out.2.2, HCG, HLN⟩, by rw [HFIN.out.1.left_eq, HCNT.out.2]; exact HCNT.out.1⟩
end Go.Proofs.YtlgoaohklggcdaaGreatDoor

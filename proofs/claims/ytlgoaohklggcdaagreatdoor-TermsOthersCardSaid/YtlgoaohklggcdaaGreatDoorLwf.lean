import Derived.Test.YtlgoaohklggcdaaGreatDoorLwx
import Derived.Test.YtlgoaohklggcdaaGreatDoorLwd
import Derived.Deep.AppendLies
/- law16.TermsOthers. Printed by gen/mklw16f.py. -/
namespace Go.Proofs.YtlgoaohklggcdaaGreatDoor
open Go.RowKit Go.Sort

/-- An operation behind which some slots are used up already. -/
theorem opOkM_s {P : Program} {ops : Array Oper} {Q : Exit → Act → World → Prop} {ks : List (Nat × Nat)} {ms : List Mk} {a0 : Act} {w0 : World} {i : Nat} {o : Oper} {tbl : List (Nat × Sp)} (dead : List Nat) (h : OpOk P .any ops Q (SPS (tbl.filter fun p => !dead.contains p.1)) a0 w0 o) (hk : ks.all (fun p => dead.contains p.1 || !(waitsB .any ops o p.1) || p.2 == i || edgeB ops p.2 i) = true) (hd : (match o.dst with | some d => !dead.contains d | none => true) = true) : OpOkM P ops Q (SPS tbl) ks ms a0 w0 i o := by
  intro a w hb hs hdf _ hsp
  obtain ⟨hw, hwp⟩ := h a w hb hs hdf fun t ht => by
    by_cases htd : dead.contains t = true
    · intro s e
      rw [lookup_dead, if_pos htd] at e
      cases e
    · intro s e
      rw [lookup_dead, if_neg htd] at e
      refine hsp t ht (fun j hj => ?_) s e
      rw [List.all_eq_true] at hk
      have := hk (t, j) hj
      simp only [htd, ht, Bool.not_true, Bool.false_or, Bool.or_eq_true, beq_iff_eq, Bool.or_false] at this
      simpa using this
  refine ⟨hw, Oper.wp_mono (fun a' w' => ?_) hwp⟩
  rintro ⟨v, rfl, hb', hv⟩
  refine ⟨v, rfl, bTrans hb hb', hb'.size, fun t _ _ _ h => SPS.st tbl _ _ _ _ h hb', fun _ _ _ _ _ h => bk_lt h hb', fun d e => ?_⟩
  have h2 := hv d e
  rw [e] at hd
  intro s hs2
  refine h2 s ?_
  rw [lookup_dead, if_neg (by simpa using hd)]
  exact hs2
def noI (f : Fa) : Fa := { f with id := 0 }
/-- The facts behind k rounds, and a person's own among them. -/
def othL (l : List Fa) (k : Nat) : List Fa := (l.take k).map noI ++ l.drop k
def ownL (l : List Fa) (pe : Int) (k : Nat) : List Fa := ((l.take k).map noI).filter fun f => decide (f.pe = pe)
theorem oth_len {l : List Fa} {k : Nat} (hk : k ≤ l.length) : (othL l k).length = l.length := by
  unfold othL
  rw [List.length_append, List.length_map, List.length_take, List.length_drop]
  omega
theorem oth_map (l : List Fa) {k : Nat} (hk : k ≤ l.length) : ((l.take k).map noI).length = k := by
  rw [List.length_map, List.length_take]
  omega
theorem oth_at {l : List Fa} {k : Nat} {x : Fa} (h : l[k]? = some x) : (othL l k)[k]? = some x := by
  have hk := (List.getElem?_eq_some_iff.1 h).1
  have hm := oth_map l (Nat.le_of_lt hk)
  unfold othL
  rw [List.getElem?_append_right (by omega), hm, Nat.sub_self, List.getElem?_drop, Nat.add_zero]
  exact h
theorem oth_take {l : List Fa} {k : Nat} (hk : k ≤ l.length) : (othL l k).take k = (l.take k).map noI := by
  have hm := oth_map l hk
  unfold othL
  exact List.take_left' hm
theorem oth_drop {l : List Fa} {k : Nat} (hk : k ≤ l.length) : (othL l k).drop (k + 1) = l.drop (k + 1) := by
  have hm := oth_map l hk
  unfold othL
  rw [← List.drop_drop, List.drop_left' hm, List.drop_drop]
theorem oth_step {l : List Fa} {k : Nat} {x : Fa} (h : l[k]? = some x) : (othL l k).take k ++ ([noI x] ++ (othL l k).drop (k + 1)) = othL l (k + 1) := by
  have hk := (List.getElem?_eq_some_iff.1 h).1
  rw [oth_take (Nat.le_of_lt hk), oth_drop (Nat.le_of_lt hk)]
  unfold othL
  rw [List.take_add_one, h, Option.toList_some, List.map_append, List.append_assoc]
  rfl
theorem own_step {l : List Fa} {k : Nat} {x : Fa} (pe : Int) (h : l[k]? = some x) : ownL l pe (k + 1) = ownL l pe k ++ (if x.pe = pe then [noI x] else []) := by
  unfold ownL
  rw [List.take_add_one, h, Option.toList_some, List.map_append, List.filter_append]
  congr 1
  by_cases hp : x.pe = pe
  · rw [if_pos hp, List.map_cons, List.map_nil, List.filter_cons, if_pos (by simp [noI, hp])]
    rfl
  · rw [if_neg hp, List.map_cons, List.map_nil, List.filter_cons, if_neg (by simp [noI, hp])]
    rfl
theorem own_len (l : List Fa) (pe : Int) (k : Nat) : (ownL l pe k).length ≤ k := by
  unfold ownL
  refine Nat.le_trans (List.length_filter_le _ _) ?_
  rw [List.length_map, List.length_take]
  exact Nat.min_le_left _ _
theorem noI_fit {f : Fa} (h : FitW f) : FitW (noI f) := ⟨⟨Int.le_refl 0, (by decide : (0 : Int) ≤ 4294967295)⟩, h.pe, h.ki, h.fr, h.tO, h.nu, h.cO, h.tX⟩
def spFl (B : Nat) (l : List Fa) : Sp := ⟨fun v w => Own encF 8 61 B v l w ∧ ∃ g, v = .slice (some ⟨g, 0, none⟩) l.length l.length, fun _ _ _ h hb => ⟨own_bel h.1 hb, h.2⟩⟩
def spVw (T : List Fa) : Sp := ⟨fun v w => ∃ A, v = .agg #[.slice A T.length T.length] ∧ SlF w A T, fun _ _ _ ⟨A, h1, h2⟩ hb => ⟨A, h1, h2.below hb⟩⟩
def spTu (X : Ls) (R : List Spn) : Sp := ⟨fun v w => ∃ A c, v = .tuple #[.slice A R.length c, .int .i64 0] ∧ Sl (encO X) 13 w w.heap.size A R, fun _ _ _ ⟨A, c, h1, h2⟩ hb => ⟨A, c, h1, sl_bel h2 hb⟩⟩
theorem one_own (f : Fa) (w : World) {B : Nat} (hB : B ≤ w.heap.size) : Own encF 8 61 B (.slice (some ⟨w.heap.size, 0, none⟩) 1 1) [f] (w.alloc (.cells (FA f) 61)) := by
  have h := World.ownsRow_lit (base := B) (e := 61) (size := 8) w (FA f) 1 hB (by simp [maxLen]) rfl
  exact h
theorem take_sl {w : World} {b off k : Nat} {L : List Fa} (h : SlF w (some ⟨b, off, none⟩) L) (hk : k ≤ L.length) : SlF w (some ⟨b, off, none⟩) (L.take k) := fun hl => by
  have hne : L ≠ [] := by intro e; rw [e] at hl; simp at hl
  obtain ⟨b', off', e, hlt, hc⟩ := h hne
  refine ⟨b', off', e, hlt, fun i x hx j u hu => hc i x ?_ j u hu⟩
  have hi : i < k := by
    have := (List.getElem?_eq_some_iff.1 hx).1
    rw [List.length_take] at this
    omega
  rwa [List.getElem?_take_of_lt hi] at hx
theorem drop_sl {w : World} {b off k : Nat} {L : List Fa} (h : SlF w (some ⟨b, off, none⟩) L) : SlF w (some ⟨b, off + k * 8, none⟩) (L.drop k) := fun hl => by
  have hne : L ≠ [] := by intro e; rw [e] at hl; simp at hl
  obtain ⟨b', off', e, hlt, hc⟩ := h hne
  injection e with e
  injection e with e1 e2 _
  subst e1
  subst e2
  refine ⟨b, off + k * 8, rfl, hlt, fun i x hx j u hu => ?_⟩
  rw [List.getElem?_drop] at hx
  have := hc (k + i) x hx j u hu
  rwa [Nat.add_mul, ← Nat.add_assoc] at this
/-- An append of one element: where the new row lies. -/
theorem wpList_append_rowL {α : Type} {enc : α → List Value} {k : Nat} {P : Program} {ops : Array Oper} {rest : List Oper} {o : Oper} {a : Act} {w : World} {Q : Exit → Act → World → Prop}
    (hk : ∀ x, (enc x).length = k) (h1 : ∀ x, ∀ u ∈ enc x, u.oneCell' = true) (hgd : o.guard = none) (s x : Operand) (t : TypeId)
    (ho : o.op = .call { callee := .builtin .append, args := #[s, x], argTypes := #[t, t] })
    (base : Nat) (e : TypeId) (z : Value) (bytes : Nat) (ht : P.underlying t = some (.slice e)) (hi : (P.info? e).map (fun i => (i.zero, i.size, i.bytes)) = some (some z, k, bytes)) (hzs : z.cells.size = k) (hsz : 0 < k)
    (v : Value) (l : List α) (y : α) (hs : a.eval s = v) (hown : Own enc k e base v l w)
    (b c : Nat) (hx : a.eval x = .slice (some ⟨b, 0, none⟩) 1 c) (hnews : ∀ j u, (enc y)[j]? = some u → w.cell? ⟨b, j, none⟩ = some u)
    (hn : l.length + 1 ≤ 1000000000) (hb : bytes ≤ 1000) (hbase : base ≤ w.heap.size)
    (h : ∀ g cap w', Own enc k e base (.slice (some ⟨g, 0, none⟩) (l.length + 1) cap) (l ++ [y]) w' → w.grownBy w' v.ownBlock → (v.ownBlock = some g ∨ g = w.heap.size) → wpList P ops Q rest (a.put o.dst (.slice (some ⟨g, 0, none⟩) (l.length + 1) cap)) w') : wpList P ops Q (o :: rest) a w := by
  obtain ⟨i, hi1, hz, hsize, hby⟩ := info_parts hi
  refine wpList_append_lies w hgd s x t ho base e i z k bytes ht hi1 hz hsize hby hzs hsz v l.length (rowOf enc l) hs hown ⟨b, 0, none⟩ 1 c (enc y) hx (by rw [hk]; omega) (fun j u hu => ?_) (h1 y) (by omega) (by simp only [maxLen]; omega) ?_ hbase _ rfl (fun g cap w' h2 h3 h4 _ => h g cap w' ?_ h3 h4)
  · have := hnews j u hu
    unfold Addr.add
    split
    · rename_i h0; subst h0; exact this
    · simpa using this
  · have h5 : (l.length + 1) * bytes ≤ 1000000001 * 1000 := Nat.mul_le_mul (by omega) hb
    exact Nat.le_trans (Nat.mul_le_mul (Nat.le_refl _) (Nat.le_refl _)) (by
      have h6 : (l.length + 1) * bytes ≤ 1000000000 * 1000 := Nat.mul_le_mul hn hb
      omega)
  · show w'.ownsRow _ _ _ _ (l ++ [y]).length (rowOf enc (l ++ [y]))
    rw [List.length_append, rowOf_append]
    have e2 : rowOf enc [y] = enc y := by simp [rowOf]
    rw [e2]
    exact h2
theorem ofL_len2 (X : Ls) (F U : Int) : (ofL X F U).length ≤ (U - F).toNat := by
  unfold ofL
  split
  · exact Nat.zero_le _
  · split
    · have h1 := mrg_len (eT X) (dayP F (U - F).toNat) []
      rw [dayP_len] at h1
      simp only [List.length_nil] at h1
      show ((dayP F (U - F).toNat).foldl (mrgS (eT X)) []).length ≤ _
      omega
    · exact Nat.zero_le _
set_option maxHeartbeats 4000000 in
set_option maxRecDepth 100000 in
theorem run_neTd2 (x : Td) (a b : Int) (w : World) : (binOp .neq 50 (.agg #[.int .i64 a, .int .i64 b, .bool x.em, .int .i64 x.sa, .int .i64 x.pa, .int .i64 (x.h 0), .int .i64 (x.h 1), .int .i64 (x.h 2), .int .i64 (x.h 3), .int .i64 (x.h 4), .int .i64 (x.h 5), .int .i64 (x.h 6), .string x.co])  (.agg #[.int .i64 a, .int .i64 b, .bool x.em, .int .i64 x.sa, .int .i64 x.pa, .int .i64 (x.h 0), .int .i64 (x.h 1), .int .i64 (x.h 2), .int .i64 (x.h 3), .int .i64 (x.h 4), .int .i64 (x.h 5), .int .i64 (x.h 6), .string x.co])).run Tryz.prog w = .ok (.bool false) w := by
  have hw := eqW x.h x.h
  rw [show eq7 x.h x.h = true from by simp [eq7]] at hw
  go_simp
set_option maxHeartbeats 4000000 in
set_option maxRecDepth 100000 in
theorem lw_TermsOthers (l : List Fa) (A : Option Addr) (ca : Nat) (pe a b : Int) (w : World) (hl : l.length ≤ 9223372036854775807) (hca : l.length ≤ ca) (fl : ∀ f ∈ l, FitW f) (hL : SlF w A l) (ha : 0 ≤ a ∧ a ≤ 4294967295) (hT : Tb w) (hC : Tab w) :
    Calls Tryz.prog 6 #[.slice A l.length ca, .int .u32 pe, .agg #[.int .u32 a, .int .u32 b]] w fun e w' => e = .returned (.bool true) ∧ Below w.heap.size w w' := by
  have HAW : Hid (∀ W, Below w.heap.size w W → Calls Tryz.prog 16 #[] W fun e w' => e = .returned (.bool true) ∧ Below W.heap.size W w') := Lib.hid fun W hW => la_awake16 W (hT.below hW) (tabBel hC hW)
  obtain ⟨ab, hab⟩ : ∃ z, w.heap.size = z := ⟨_, rfl⟩
  obtain ⟨w2, hw2⟩ : ∃ z, w.alloc (.cells #[.int .u32 a, .int .u32 b] 24) = z := ⟨_, rfl⟩
  have hk2 : Bk ab 24 #[.int .u32 a, .int .u32 b] w2 := by rw [← hw2, ← hab]; exact Bk.new _ _ _
  have hb2 : Below w.heap.size w w2 := by rw [← hw2]; exact bAlloc _ _
  have HB2 := Lib.hid hb2
  have HK2 := Lib.hid hk2
  have HL2 : Hid (SlF w2 A l) := Lib.hid (hL.below hb2)
  have HT2 : Hid (Tb w2) := Lib.hid (hT.below hb2)
  have HC2 : Hid (Tab w2) := Lib.hid (tabBel hC hb2)
  have HFL := Lib.hid fl
  have HE := Lib.hid (And.intro hab hw2)
  clear hab hw2 hk2 hb2 hL hT hC fl
  go_enter Tryz.func6, Tryz.ntmps6
  go_upto_region 1 with fail
  rw [HE.out.1, HE.out.2]
  clear HE
  by_cases h40 : (40 : Int) < (l.length : Int)
  · go_wp2_with fail
    refine (HAW.out _ HB2.out).mono ?_
    rintro e w3 ⟨rfl, hb3⟩
    have HF := Lib.hid (bTrans HB2.out hb3)
    clear hb3
    go_wp2
    go_ret
    exact ⟨rfl, HF.out⟩
  have hl40 : l.length ≤ 40 := by omega
  go_wp2
  go_loopw [0, 7, 8] (fun lv ov iv wr => ∃ k : Nat, k ≤ l.length ∧ iv = .int .i64 k ∧ (∃ (A0 : Option Addr) (c0 : Nat) (A7 : Option Addr) (c7 : Nat), l.length ≤ c0 ∧ lv = .slice A0 l.length c0 ∧ ov = .slice A7 (ownL l pe k).length c7 ∧ Hid (SlF wr A0 (othL l k) ∧ Own encF 8 61 w2.heap.size (.slice A7 (ownL l pe k).length c7) (ownL l pe k) wr ∧ (∀ g off, A0 = some ⟨g, off, none⟩ → (Value.slice A7 (ownL l pe k).length c7).ownBlock ≠ some g) ∧ (∀ f ∈ l.take k, f.ki ≠ 18) ∧ Below w2.heap.size w2 wr))) (fun _ _ iv _ => l.length - (intOf iv).toNat)
  case atStart => exact ⟨0, Nat.zero_le _, rfl, A, ca, none, 0, hca, rfl, rfl, Lib.hid ⟨HL2.out, Own.nil _, fun g off _ h => by simp [Value.ownBlock] at h, fun f hf => by simp at hf, Below.refl _ _⟩⟩
  case round =>
    obtain ⟨k, hk, rfl, A0, c0, A7, c7, hc0, rfl, rfl, HI⟩ := hrel
    by_cases hlt : k < l.length
    · obtain ⟨x, hx⟩ : ∃ x, l[k]? = some x := ⟨_, List.getElem?_eq_getElem hlt⟩
      have HX := Lib.hid hx
      have hlt2 : (k : Int) < (l.length : Int) := by omega
      have hkc : ¬ c0 < k := by omega
      have hkd : 0 ≤ (k : Int) + 1 ∧ (k : Int) + 1 ≤ (l.length : Int) := by omega
      have HOL := Lib.hid (oth_len hk)
      have HOA := Lib.hid (oth_at hx)
      obtain ⟨L, hLk⟩ : ∃ L, othL l k = L := ⟨_, rfl⟩
      have HLE := Lib.hid hLk
      have hLl : L.length = l.length := by rw [← hLk]; exact oth_len hk
      rw [hLk] at HOA HI
      obtain ⟨g1, o1, rfl, _, hat1⟩ := HI.out.1 (by intro h; rw [h] at hLl; simp at hLl; omega)
      have HAT : Hid (∀ W, Below wr.heap.size wr W → W.cell? ⟨g1, o1 + k * 8, none⟩ = some (.int .u32 x.id) ∧ W.cell? ⟨g1, o1 + k * 8 + 1, none⟩ = some (.int .u32 x.pe) ∧ W.cell? ⟨g1, o1 + k * 8 + 2, none⟩ = some (.int .i64 x.ki) ∧ W.cell? ⟨g1, o1 + k * 8 + 3, none⟩ = some (.int .i64 x.fr) ∧ W.cell? ⟨g1, o1 + k * 8 + 4, none⟩ = some (.int .i64 x.to) ∧ W.cell? ⟨g1, o1 + k * 8 + 5, none⟩ = some (.string x.co) ∧ W.cell? ⟨g1, o1 + k * 8 + 6, none⟩ = some (.int .i64 x.nu) ∧ W.cell? ⟨g1, o1 + k * 8 + 7, none⟩ = some (.string x.tx)) := Lib.hid fun W hW => by
        have h := hat1 k x HOA.out
        exact ⟨bCell hW (h 0 _ rfl), bCell hW (h 1 _ rfl), bCell hW (h 2 _ rfl), bCell hW (h 3 _ rfl), bCell hW (h 4 _ rfl), bCell hW (h 5 _ rfl), bCell hW (h 6 _ rfl), bCell hW (h 7 _ rfl)⟩
      obtain ⟨C0, C1, C2, C3, C4, C5, C6, C7⟩ := HAT.out _ (Below.refl _ _)
      have HBW : Hid (Below w.heap.size w wr) := Lib.hid (bTrans HB2.out HI.out.2.2.2.2)
      clear hx hLk hat1
      by_cases h18 : x.ki = 18
      · rw [h18] at C2
        clear C0 C1 C3 C4 C5 C6 C7
        go_wp2_with fail
        refine (HAW.out _ HBW.out).mono ?_
        rintro e w3 ⟨rfl, hb3⟩
        have HF := Lib.hid (bTrans HBW.out hb3)
        clear hb3
        go_wp2
        go_ret
        exact ⟨rfl, HF.out⟩
      obtain ⟨fb, hfb⟩ : ∃ z, wr.heap.size = z := ⟨_, rfl⟩
      obtain ⟨w3, hw3⟩ : ∃ z, wr.alloc (.cells #[.int .u32 x.id, .int .u32 x.pe, .int .i64 x.ki, .int .i64 x.fr, .int .i64 x.to, .string x.co, .int .i64 x.nu, .string x.tx] 61) = z := ⟨_, rfl⟩
      have HK3 : Hid (Bk fb 61 #[.int .u32 x.id, .int .u32 x.pe, .int .i64 x.ki, .int .i64 x.fr, .int .i64 x.to, .string x.co, .int .i64 x.nu, .string x.tx] w3) := Lib.hid (by rw [← hw3, ← hfb]; exact Bk.new _ _ _)
      have HB3 : Hid (Below wr.heap.size wr w3) := Lib.hid (by rw [← hw3]; exact bAlloc _ _)
      have HFB : Hid (wr.heap.size ≤ fb) := Lib.hid (Nat.le_of_eq hfb)
      have HE := Lib.hid (And.intro hfb hw3)
      have hki : (x.ki == 18) = false := beq_eq_false_iff_ne.2 h18
      clear hfb hw3
      go_upto_region 10 with fail
      rw [HE.out.1, HE.out.2]
      clear HE C0 C1 C2 C3 C4 C5 C6 C7
      have F0 : w3.cell? ⟨fb, 0, none⟩ = some (.int .u32 x.id) := HK3.out.cell 0
      have G0 : w3.frozen? ⟨fb, 0, none⟩ = false := HK3.out.frozen 0
      obtain ⟨w4, hw4⟩ : ∃ z, w3.setCell ⟨fb, 0, none⟩ (.int .u32 0) = z := ⟨_, rfl⟩
      obtain ⟨f0, hf0⟩ : ∃ f0 : Fa, noI x = f0 := ⟨_, rfl⟩
      have HF0 := Lib.hid hf0
      have HK4 : Hid (Bk fb 61 (FA f0) w4) := Lib.hid (by rw [← hf0, ← hw4]; exact HK3.out.set_ 0 (.int .u32 0))
      have HB4 : Hid (Below wr.heap.size wr w4) := Lib.hid (by rw [← hw4]; exact HB3.out.setCell (p := ⟨fb, 0, none⟩) HFB.out _)
      have HS4 : Hid (∀ W, Below w4.heap.size w4 W → SlF W (some ⟨g1, o1, none⟩) L) := Lib.hid fun W hW => HI.out.1.below (bTrans HB4.out hW)
      have HFC : Hid (∀ W, Below w4.heap.size w4 W → W.cell? ⟨fb, 0, none⟩ = some (.int .u32 f0.id) ∧ W.cell? ⟨fb, 1, none⟩ = some (.int .u32 f0.pe) ∧ W.cell? ⟨fb, 2, none⟩ = some (.int .i64 f0.ki) ∧ W.cell? ⟨fb, 3, none⟩ = some (.int .i64 f0.fr) ∧ W.cell? ⟨fb, 4, none⟩ = some (.int .i64 f0.to) ∧ W.cell? ⟨fb, 5, none⟩ = some (.string f0.co) ∧ W.cell? ⟨fb, 6, none⟩ = some (.int .i64 f0.nu) ∧ W.cell? ⟨fb, 7, none⟩ = some (.string f0.tx)) := Lib.hid fun W hW => by
        have k := HK4.out
        exact ⟨bCell hW (k.cell 0), bCell hW (k.cell 1), bCell hW (k.cell 2), bCell hW (k.cell 3), bCell hW (k.cell 4), bCell hW (k.cell 5), bCell hW (k.cell 6), bCell hW (k.cell 7)⟩
      go_upto_region 11 with fail
      clear F0 G0 hw4 hf0 HB3 HK3 HAT
      go_cut [0] from 38 to 50 (fun v wx => (∃ A c, v = .slice A l.length c ∧ l.length ≤ c ∧ Hid (Own encF 8 61 w4.heap.size (.slice A l.length c) (othL l (k + 1)) wx)) ∧ Hid (Below w4.heap.size w4 wx))
      case first =>
        refine wp_region_umk (SPS [(8, Sp.val (.int .i64 k)), (9, Sp.val (.pointer (some ⟨fb, 0, none⟩))), (38, spFl w4.heap.size []), (39, Sp.val (.slice (some ⟨g1, o1, none⟩) l.length c0)), (40, Sp.val (.int .i64 k)), (41, spSl encF 8 (L.take k)), (42, spOwF w4.heap.size (L.take k)), (43, Sp.val (.agg #[.int .u32 f0.id, .int .u32 f0.pe, .int .i64 f0.ki, .int .i64 f0.fr, .int .i64 f0.to, .string f0.co, .int .i64 f0.nu, .string f0.tx])), (44, spFl w4.heap.size [f0]), (45, Sp.val (.slice (some ⟨g1, o1, none⟩) l.length c0)), (46, Sp.val (.int .i64 k)), (47, Sp.val (.int .i64 (k + 1))), (48, spSl encF 8 (L.drop (k + 1))), (49, spOwF w4.heap.size ([f0] ++ L.drop (k + 1))), (50, spOwF w4.heap.size (L.take k ++ ([f0] ++ L.drop (k + 1)))), (0, spOwF w4.heap.size (L.take k ++ ([f0] ++ L.drop (k + 1))))]) [(38, 12), (41, 12), (42, 12), (44, 12), (48, 12), (49, 12)] [] [38, 39, 40, 41, 42, 43, 44, 45, 46, 47, 48, 49, 50, 0] rfl (by rfl) (by kernel_rfl) (SPS.st _) (by simp) (by simp) (by simp) (by simp) (by rfl) ?_ (opsK_all ?_) ?_
        · exact sps_start (cons_all rfl (cons_all rfl nil_all))
        · refine opsK_cons (by
           exact kx_n (opOk_new rfl (.inl rfl) (fun a W hW hsp => ⟨.slice (some ⟨W.heap.size, 0, none⟩) 0 0, .cells #[] 61, by
              unfold execOp
              go_simp, sps rfl ⟨own_empty (Bk.new _ _ _) hW.size, W.heap.size, rfl⟩⟩)) (by kernel_rfl) (by simp)) ?_
          refine opsK_cons (by
           exact kx_m (opOkM_runI rfl rfl (by kernel_rfl) (fun a W hW hini hsp => by
              have e0 : a.eval (.tmp 0) = .slice (some ⟨g1, o1, none⟩) l.length c0 := (hini 0 (by kernel_rfl)).trans (by first | rfl | (go_simp; rfl) | go_simp)
              refine ⟨.slice (some ⟨g1, o1, none⟩) l.length c0, ?_, sps rfl rfl⟩
              unfold execOp
              simp only [e0]
              go_simp)) (by simp)) ?_
          refine opsK_cons (by
           exact kx_n (opOk_move rfl rfl (.inl rfl) (by kernel_rfl) (fun _ _ h => sps rfl (h.get rfl))) (by kernel_rfl) (by simp)) ?_
          refine opsK_cons (by
           exact kx_n (opOk_run rfl (.inl rfl) (fun a W hW hsp => by
              have e39 : a.eval (.tmp 39) = .slice (some ⟨g1, o1, none⟩) l.length c0 := (hsp 39 (by kernel_rfl)).get rfl
              have e40 : a.eval (.tmp 40) = .int .i64 k := (hsp 40 (by kernel_rfl)).get rfl
              refine ⟨.slice (some ⟨g1, o1, none⟩) k c0, ?_, sps rfl ⟨_, c0, by rw [List.length_take, Nat.min_eq_left (by omega)], take_sl (HS4.out _ hW) (by omega)⟩⟩
              have q40 : a.tmps[40]?.getD undef = .int .i64 k := by rw [← Array.getD_eq_getD_getElem?]; exact e40
              unfold execOp
              simp only [e39]
              go_simp)) (by kernel_rfl) (by simp)) ?_
          refine opsK_cons (by
           exact kx_n (opOk_full encF_len encF_one (t := 22) (e := 61) Tryz.underlying22 factInfo rfl (by decide) (l := []) (m := L.take k) rfl rfl rfl (by kernel_rfl) (by kernel_rfl) (spFl w4.heap.size []) (spSl encF 8 (L.take k)) rfl rfl (fun _ _ h => h) (fun _ _ h => h) (by simp; omega) (by decide) (fun D e v w h => by cases e; exact h)) (by kernel_rfl) (by simp)) ?_
          refine opsK_cons (by
           exact kx_n (opOk_load (p := ⟨fb, 0, none⟩) rfl rfl (.inl rfl) (by kernel_rfl) (fun _ _ h => h.get rfl) (fun W hW => by
              obtain ⟨c0, c1, c2, c3, c4, c5, c6, c7⟩ := HFC.out _ hW
              exact ⟨.agg #[.int .u32 f0.id, .int .u32 f0.pe, .int .i64 f0.ki, .int .i64 f0.fr, .int .i64 f0.to, .string f0.co, .int .i64 f0.nu, .string f0.tx], by go_simp, sps rfl rfl⟩)) (by kernel_rfl) (by simp)) ?_
          refine opsK_cons (by
           exact kx_n (opOk_new rfl (.inl rfl) (fun a W hW hsp => by
              have e43 : a.eval (.tmp 43) = .agg (FA f0) := (hsp 43 (by kernel_rfl)).get rfl
              exact ⟨_, _, build_one rfl e43 W, sps rfl ⟨one_own f0 W hW.size, W.heap.size, rfl⟩⟩)) (by kernel_rfl) (by simp)) ?_
          refine opsK_cons (by
           exact kx_m (opOkM_runI rfl rfl (by kernel_rfl) (fun a W hW hini hsp => by
              have e0 : a.eval (.tmp 0) = .slice (some ⟨g1, o1, none⟩) l.length c0 := (hini 0 (by kernel_rfl)).trans (by first | rfl | (go_simp; rfl) | go_simp)
              refine ⟨.slice (some ⟨g1, o1, none⟩) l.length c0, ?_, sps rfl rfl⟩
              unfold execOp
              simp only [e0]
              go_simp)) (by simp)) ?_
          refine opsK_cons (by
           exact kx_n (opOk_move rfl rfl (.inl rfl) (by kernel_rfl) (fun _ _ h => sps rfl (h.get rfl))) (by kernel_rfl) (by simp)) ?_
          refine opsK_cons (by
           exact kx_n (opOk_run rfl (.inl rfl) (fun a W hW hsp => by
              have e46 : a.eval (.tmp 46) = .int .i64 k := (hsp 46 (by kernel_rfl)).get rfl
              refine ⟨.int .i64 (k + 1), ?_, sps rfl rfl⟩
              unfold execOp
              simp only [e46]
              go_simp
              exact IntWalk.i64_in _ (by omega))) (by kernel_rfl) (by simp)) ?_
          refine opsK_cons (by
           exact kx_n (opOk_run rfl (.inl rfl) (fun a W hW hsp => by
              have e45 : a.eval (.tmp 45) = .slice (some ⟨g1, o1, none⟩) l.length c0 := (hsp 45 (by kernel_rfl)).get rfl
              have e47 : a.eval (.tmp 47) = .int .i64 (k + 1) := (hsp 47 (by kernel_rfl)).get rfl
              refine ⟨.slice (if c0 = k + 1 then some ⟨g1, o1, none⟩ else some ⟨g1, o1 + (k + 1) * 8, none⟩) (l.length - (k + 1)) (c0 - (k + 1)), ?_, sps rfl ⟨_, _, by rw [List.length_drop, hLl], by
                split
                · intro hne
                  exact absurd (List.drop_eq_nil_of_le (by omega)) hne
                · exact drop_sl (HS4.out _ hW)⟩⟩
              have q47 : a.tmps[47]?.getD undef = .int .i64 (k + 1) := by rw [← Array.getD_eq_getD_getElem?]; exact e47
              unfold execOp
              simp only [e45]
              go_simp)) (by kernel_rfl) (by simp)) ?_
          refine opsK_cons (by
           exact kx_n (opOk_full encF_len encF_one (t := 22) (e := 61) Tryz.underlying22 factInfo rfl (by decide) (l := [f0]) (m := L.drop (k + 1)) rfl rfl rfl (by kernel_rfl) (by kernel_rfl) (spFl w4.heap.size [f0]) (spSl encF 8 (L.drop (k + 1))) rfl rfl (fun _ _ h => h) (fun _ _ h => h) (by simp; omega) (by decide) (fun D e v w h => by cases e; exact h)) (by kernel_rfl) (by simp)) ?_
          refine opsK_cons (by
           exact kx_m (opOkM_app encF_len encF_one (t := 22) (e := 61) Tryz.underlying22 factInfo rfl (by decide) (l := L.take k) (m := [f0] ++ L.drop (k + 1)) rfl rfl rfl (by kernel_rfl) (by kernel_rfl) (by kernel_rfl) (spOwF w4.heap.size (L.take k)) (spOwF w4.heap.size ([f0] ++ L.drop (k + 1))) rfl rfl (fun _ _ h => h) (fun v w h => by
              obtain ⟨A', c, e1, _, h2⟩ := own_sl encF_len (show Own encF 8 61 w4.heap.size v _ w from h)
              exact ⟨A', c, e1, h2⟩) (by simp; omega) (by decide) (fun D e v w h => by cases e; exact h) (by simp) (cons_all (.inr (.inr (.inr fun _ _ _ _ _ _ h _ _ _ => h))) (cons_all (.inr (.inr (.inr fun _ _ _ _ _ _ h _ _ _ => h))) (cons_all (.inr (.inl (by simp))) (cons_all (.inr (.inr (.inr fun _ _ _ _ _ _ h _ _ _ => h))) (cons_all (.inr (.inr (.inr fun _ _ _ _ _ _ h _ _ _ => h))) (cons_all (.inr (.inl (by simp))) (cons_all (.inr (.inl (by simp))) (cons_all (.inr (.inr (.inr fun _ _ _ _ _ _ h _ _ _ => h))) (cons_all (.inr (.inl (by simp))) (cons_all (.inr (.inr (.inr fun _ _ _ _ _ _ h _ _ _ => h))) (cons_all (.inr (.inr (.inr fun _ _ _ _ _ _ h _ _ _ => h))) (cons_all (.inr (.inr (.inr fun _ _ _ _ _ _ h _ _ _ => h))) (cons_all (.inr (.inl (by simp))) (cons_all (.inr (.inl (by simp))) (cons_all (.inl rfl) (cons_all (.inr (.inr (.inl (by kernel_rfl)))) (nil_all)))))))))))))))))) (by simp)) ?_
          refine opsK_cons (by
           exact kx_m (opOkM_s [38, 41, 42, 44, 48, 49] (opOk_assign rfl rfl (.inl rfl) (by kernel_rfl) (fun _ _ h => sps rfl (h.get rfl))) (by kernel_rfl) (by rfl)) (by simp)) ?_
          exact opsK_nil
        · intro vs W hb hsp hmk
          have h0 : Own encF 8 61 w4.heap.size (vs 0) (othL l (k + 1)) W := by
            have h := (hsp 0 (by simp)).get rfl
            rw [← oth_step HX.out, HLE.out, HF0.out]
            exact h
          obtain ⟨A5, c5, e5, hc5, _⟩ := own_sl encF_len h0
          rw [oth_len (by omega)] at e5 hc5
          rw [e5] at h0
          clear hmk hsp
          simp only [putAll]
          go_simp
          go_step
          go_meet
          exact ⟨⟨A5, c5, by first | rfl | exact e5, hc5, Lib.hid h0⟩, Lib.hid hb⟩
      case rest =>
      obtain ⟨⟨A5, c5, rfl, hc5, HV5⟩, HB5⟩ := hcut
      obtain ⟨w5, rfl⟩ : ∃ x : World, x = wc := ⟨_, rfl⟩
      have HB45 : Hid (Below wr.heap.size wr w5) := Lib.hid (bTrans HB4.out HB5.out)
      have HB25 : Hid (Below w2.heap.size w2 w5) := Lib.hid (bTrans HI.out.2.2.2.2 HB45.out)
      have HOV : Hid (Own encF 8 61 w2.heap.size (.slice A7 (ownL l pe k).length c7) (ownL l pe k) w5) := Lib.hid (own_bel HI.out.2.1 HB45.out)
      have HLT : Hid (∀ g, (Value.slice A7 (ownL l pe k).length c7).ownBlock = some g → g < w4.heap.size) := Lib.hid fun g h => (Own.lt (own_bel HI.out.2.1 HB4.out) h).2
      have HVB : Hid (∀ g off, A5 = some ⟨g, off, none⟩ → w4.heap.size ≤ g ∧ g < w5.heap.size) := Lib.hid fun g off h => Own.lt HV5.out (by rw [h]; rfl)
      have H18 : Hid (∀ f ∈ l.take (k + 1), f.ki ≠ 18) := Lib.hid fun f hf => by
        rw [List.take_add_one, HX.out] at hf
        rcases List.mem_append.1 hf with h | h
        · exact HI.out.2.2.2.1 f h
        · rw [Option.toList_some, List.mem_singleton] at h
          rw [h]
          exact h18
      have HFPE : Hid (f0.pe = x.pe) := Lib.hid (by rw [← HF0.out]; rfl)
      have HOS := Lib.hid (own_step pe HX.out)
      obtain ⟨E0, E1, E2, E3, E4, E5, E6, E7⟩ := HFC.out _ HB5.out
      have hol : (ownL l pe k).length ≤ 40 := Nat.le_trans (own_len l pe k) (by omega)
      obtain ⟨ow, how⟩ : ∃ ow, ownL l pe k = ow := ⟨_, rfl⟩
      rw [how] at HOV HLT HOS hol
      rw [how]
      clear HI how HOA HOL HLE HS4 HFC HB4 HK4 hki
      by_cases hp : f0.pe = pe
      · have HOS2 : Hid (ownL l pe (k + 1) = ow ++ [f0]) := Lib.hid (by rw [HOS.out, if_pos (by rw [← HFPE.out]; exact hp), HF0.out])
        have HNW : Hid (∀ j u, (encF f0)[j]? = some u → (w5.alloc (.cells #[.int .u32 f0.id, .int .u32 f0.pe, .int .i64 f0.ki, .int .i64 f0.fr, .int .i64 f0.to, .string f0.co, .int .i64 f0.nu, .string f0.tx] 61)).cell? ⟨w5.heap.size, j, none⟩ = some u) := Lib.hid fun j u hu => by
          rw [(Bk.new w5 _ _).cell j]
          simpa [encF] using hu
        have HSZ : Hid (w2.heap.size ≤ w5.heap.size) := Lib.hid HB25.out.size
        go_upto_region 13 with fail
        clear hp
        go_wp2_with ((at_builtin; refine wpList_append_rowL encF_len encF_one rfl _ _ 22 rfl w2.heap.size 61 _ 72 Tryz.underlying22 factInfo rfl (by decide) _ ow f0 rfl (HOV.out.alloc _) w5.heap.size 1 rfl HNW.out (by omega) (by decide) (Nat.le_trans HSZ.out (Grows.of_alloc w5 _).size) ?_))
        intro g7 c7' w6 hown6 hgr6 hpl6
        have HI6 : Hid (SlF w6 A5 (othL l (k + 1)) ∧ Own encF 8 61 w2.heap.size (.slice (some ⟨g7, 0, none⟩) (ow.length + 1) c7') (ow ++ [f0]) w6 ∧ (∀ g off, A5 = some ⟨g, off, none⟩ → (Value.slice (some ⟨g7, 0, none⟩) (ow.length + 1) c7').ownBlock ≠ some g) ∧ (∀ f ∈ l.take (k + 1), f.ki ≠ 18) ∧ Below w2.heap.size w2 w6) := Lib.hid (by
          have hal : w5.heap.size < (w5.alloc (.cells #[.int .u32 f0.id, .int .u32 f0.pe, .int .i64 f0.ki, .int .i64 f0.fr, .int .i64 f0.to, .string f0.co, .int .i64 f0.nu, .string f0.tx] 61)).heap.size := size_new _ _
          refine ⟨?_, hown6, fun g off h hg => ?_, H18.out, bel_own (bTrans HB25.out (bAlloc w5 _)) (Nat.le_trans HSZ.out (Nat.le_of_lt hal)) (HOV.out.alloc _) hgr6⟩
          · have h1 := (HV5.out.alloc (.cells #[.int .u32 f0.id, .int .u32 f0.pe, .int .i64 f0.ki, .int .i64 f0.fr, .int .i64 f0.to, .string f0.co, .int .i64 f0.nu, .string f0.tx] 61)).kept hgr6 (by
              cases hb : (Value.slice A5 l.length c5).ownBlock with
              | none => exact .inl rfl
              | some g =>
                refine .inr fun h => ?_
                have h2 := (Own.lt HV5.out hb).1
                have h3 := HLT.out g h.symm
                omega)
            obtain ⟨A', c', e1, _, h2⟩ := own_sl encF_len h1
            injection e1 with e1 _ _
            rw [e1]
            exact h2
          · have h1 := HVB.out g off h
            have h2 : g7 = g := by simpa [Value.ownBlock] using hg
            rcases hpl6 with h3 | h3
            · have := HLT.out g7 h3
              omega
            · omega)
        clear hown6 hgr6 hpl6 E0 E1 E2 E3 E4 E5 E6 E7
        go_wp2
        exact ⟨⟨k + 1, by omega, by go_num, A5, c5, some ⟨g7, 0, none⟩, c7', hc5, rfl, by rw [HOS2.out, List.length_append]; rfl, by rw [HOS2.out, List.length_append]; exact HI6⟩, by simp [intOf]; omega⟩
      · have HOS2 : Hid (ownL l pe (k + 1) = ow) := Lib.hid (by rw [HOS.out, if_neg (by rw [← HFPE.out]; exact hp), List.append_nil])
        have HI6 : Hid (SlF w5 A5 (othL l (k + 1)) ∧ Own encF 8 61 w2.heap.size (.slice A7 ow.length c7) ow w5 ∧ (∀ g off, A5 = some ⟨g, off, none⟩ → (Value.slice A7 ow.length c7).ownBlock ≠ some g) ∧ (∀ f ∈ l.take (k + 1), f.ki ≠ 18) ∧ Below w2.heap.size w2 w5) := Lib.hid (by
          refine ⟨?_, HOV.out, fun g off h hg => ?_, H18.out, HB25.out⟩
          · obtain ⟨A', c', e1, _, h2⟩ := own_sl encF_len HV5.out
            injection e1 with e1 _ _
            rw [e1]
            exact h2
          · have h1 := HVB.out g off h
            have := HLT.out g hg
            omega)
        clear E0 E2 E3 E4 E5 E6 E7
        go_wp2
        exact ⟨⟨k + 1, by omega, by go_num, A5, c5, A7, c7, hc5, rfl, by rw [HOS2.out], by rw [HOS2.out]; exact HI6⟩, by simp [intOf]; omega⟩
    · obtain rfl : k = l.length := by omega
      have hN0 : othL l l.length = l.map noI := by unfold othL; rw [List.take_length, List.drop_length, List.append_nil]
      have hM0 : ownL l pe l.length = (l.map noI).filter fun f => decide (f.pe = pe) := by unfold ownL; rw [List.take_length]
      have hNl : (l.map noI).length = l.length := List.length_map ..
      have hN1 : ∀ f ∈ l.map noI, f.id = 0 ∧ f.ki ≠ 18 := fun f hf => by
        obtain ⟨g, hg, rfl⟩ := List.mem_map.1 hf
        exact ⟨rfl, HI.out.2.2.2.1 g (by rw [List.take_length]; exact hg)⟩
      have hN2 : ∀ f ∈ l.map noI, FitW f := fun f hf => by
        obtain ⟨g, hg, rfl⟩ := List.mem_map.1 hf
        exact noI_fit (HFL.out g hg)
      obtain ⟨N, hN⟩ : ∃ N, l.map noI = N := ⟨_, rfl⟩
      rw [hN] at hN0 hM0 hNl hN1 hN2
      obtain ⟨M, hM⟩ : ∃ M, ownL l pe l.length = M := ⟨_, rfl⟩
      rw [hM] at hM0
      have hM2 : ∀ f ∈ M, FitW f := fun f hf => by rw [hM0] at hf; exact hN2 f (List.mem_filter.1 hf).1
      have hMl : M.length ≤ 40 := by rw [← hM]; exact Nat.le_trans (own_len l pe _) (by omega)
      rw [hN0, hM] at HI
      rw [hM]
      have HN2 := Lib.hid hN2
      have HM2 := Lib.hid hM2
      obtain ⟨T1, hT1⟩ : ∃ T, tellL [] N = T := ⟨_, rfl⟩
      obtain ⟨T2, hT2⟩ : ∃ T, tellL [] M = T := ⟨_, rfl⟩
      have hT1l : T1.length ≤ 40 := by rw [← hT1]; have := told_len N; omega
      have hT2l : T2.length ≤ 40 := by rw [← hT2]; have := told_len M; omega
      have HX1 : Hid (∀ f ∈ T1, f.tx.size ≤ 1000000) := Lib.hid (by rw [← hT1]; exact told_tx hN2)
      have HX2 : Hid (∀ f ∈ T2, f.tx.size ≤ 1000000) := Lib.hid (by rw [← hT2]; exact told_tx hM2)
      have HSAME : Hid (∀ F U, ofL (lsOf T1 pe) F U = ofL (lsOf T2 pe) F U ∧ ∀ q ∈ ofL (lsOf T1 pe) F U, encO (lsOf T1 pe) q = encO (lsOf T2 pe) q) := Lib.hid fun F U => runs_same fun d _ _ => by
        rw [← hT1, ← hT2, hM0]
        exact others_on hN1 (by omega) pe d
      have HTD1 : Hid (∀ W, Below wr.heap.size wr W → Calls Tryz.prog 17 #[.slice A0 l.length c0] W fun e w' => (∃ A2, e = .returned (.agg #[.slice A2 T1.length T1.length]) ∧ SlF w' A2 T1) ∧ Below W.heap.size W w') := Lib.hid fun W hW => by
        have h := la_told16 N A0 c0 W (by omega) HN2.out (HI.out.1.below hW) (HT2.out.below (bTrans HI.out.2.2.2.2 hW))
        rw [hT1, hNl] at h
        exact h
      have HTD2 : Hid (∀ W, Below wr.heap.size wr W → Calls Tryz.prog 17 #[.slice A7 M.length c7] W fun e w' => (∃ A2, e = .returned (.agg #[.slice A2 T2.length T2.length]) ∧ SlF w' A2 T2) ∧ Below W.heap.size W w') := Lib.hid fun W hW => by
        obtain ⟨A', c', e1, _, h2⟩ := own_sl encF_len HI.out.2.1
        injection e1 with e1 _ _
        have h := la_told16 M A7 c7 W (by omega) HM2.out (by rw [e1]; exact Sl.below h2 hW) (HT2.out.below (bTrans HI.out.2.2.2.2 hW))
        rw [hT2] at h
        exact h
      have HC : Hid (∀ W, Below wr.heap.size wr W → Tab W ∧ W.cell? ⟨ab, 0, none⟩ = some (.int .u32 a) ∧ W.cell? ⟨ab, 1, none⟩ = some (.int .u32 b)) := Lib.hid fun W hW => by
        have hz := bTrans HI.out.2.2.2.2 hW
        exact ⟨tabBel HC2.out hz, bCell hz (HK2.out.cell 0), bCell hz (HK2.out.cell 1)⟩
      have HBW : Hid (Below w.heap.size w wr) := Lib.hid (bTrans HB2.out HI.out.2.2.2.2)
      have HWI := Lib.hid (la_within a (b % 65536) wr ha (by omega))
      obtain ⟨_, AB0, AB1⟩ := HC.out _ (Below.refl _ _)
      clear hN0 hM0 hNl hN1 hN2 hM2 hM hN hT1 hT2 HI HN2 HM2 HFL HL2 HT2 HC2 HB2 HK2
      go_wp2_with fail
      refine HWI.out.mono ?_
      rintro e w5 ⟨⟨F, m, rfl, hF1, hF2, hm1, hm2⟩, hb5⟩
      obtain ⟨sb, hsb⟩ : ∃ z, w5.heap.size = z := ⟨_, rfl⟩
      obtain ⟨w6, hw6⟩ : ∃ z, w5.alloc (.cells #[.int .i64 F, .int .i64 (F + m)] 31) = z := ⟨_, rfl⟩
      have HS6 : Hid (Bk sb 31 #[.int .i64 F, .int .i64 (F + m)] w6) := Lib.hid (by rw [← hw6, ← hsb]; exact Bk.new _ _ _)
      have HB6 : Hid (Below wr.heap.size wr w6) := Lib.hid (by rw [← hw6]; exact bTrans hb5 (bAlloc _ _))
      have HE := Lib.hid (And.intro hsb hw6)
      clear hsb hw6 hb5 AB0 AB1 HWI
      go_upto_region 15 with fail
      rw [HE.out.1, HE.out.2]
      clear HE
      obtain ⟨R, hR⟩ : ∃ R, ofL (lsOf T1 pe) F (F + m) = R := ⟨_, rfl⟩
      have hR2 : ofL (lsOf T2 pe) F (F + m) = R := by rw [← hR]; exact (HSAME.out F (F + m)).1.symm
      have HEN : Hid (∀ q ∈ R, encO (lsOf T1 pe) q = encO (lsOf T2 pe) q) := Lib.hid (by rw [← hR]; exact (HSAME.out F (F + m)).2)
      have hRl : R.length ≤ 200000 := by rw [← hR]; exact Nat.le_trans (ofL_len2 _ _ _) (by omega)
      obtain ⟨X1, hX1⟩ : ∃ X, lsOf T1 pe = X := ⟨_, rfl⟩
      obtain ⟨X2, hX2⟩ : ∃ X, lsOf T2 pe = X := ⟨_, rfl⟩
      have HOF1 : Hid (∀ A W, Below w6.heap.size w6 W → SlF W A T1 → Calls Tryz.prog 19 #[.agg #[.slice A T1.length T1.length], .int .u32 pe, .agg #[.int .i64 F, .int .i64 (F + m)]] W fun e w' => ∃ A c, e = .returned (.tuple #[.slice A R.length c, .int .i64 0]) ∧ Sl (encO X1) 13 w' w'.heap.size A R ∧ Below W.heap.size W w') := Lib.hid (fun A W hW hA => by
        have h := tm_Of T1 A T1.length pe F (F + m) W (by omega) hA HX1.out (by omega) (by omega) (HC.out _ (bTrans HB6.out hW)).1
        rw [(of_near (X := lsOf T1 pe) hF1 hF2 hm1 hm2).2, hR, hX1] at h
        refine h.mono fun e w' ⟨⟨A, c, h1, h2⟩, h3⟩ => ?_
        obtain ⟨A', c', e2, _, h4⟩ := own_sl (encO_len _) h2
        injection e2 with e2 _ _
        subst e2
        exact ⟨_, c, h1, h4, h3⟩)
      have HOF2 : Hid (∀ A W, Below w6.heap.size w6 W → SlF W A T2 → Calls Tryz.prog 19 #[.agg #[.slice A T2.length T2.length], .int .u32 pe, .agg #[.int .i64 F, .int .i64 (F + m)]] W fun e w' => ∃ A c, e = .returned (.tuple #[.slice A R.length c, .int .i64 0]) ∧ Sl (encO X2) 13 w' w'.heap.size A R ∧ Below W.heap.size W w') := Lib.hid (fun A W hW hA => by
        have h := tm_Of T2 A T2.length pe F (F + m) W (by omega) hA HX2.out (by omega) (by omega) (HC.out _ (bTrans HB6.out hW)).1
        rw [(of_near (X := lsOf T2 pe) hF1 hF2 hm1 hm2).2, hR2, hX2] at h
        refine h.mono fun e w' ⟨⟨A, c, h1, h2⟩, h3⟩ => ?_
        obtain ⟨A', c', e2, _, h4⟩ := own_sl (encO_len _) h2
        injection e2 with e2 _ _
        subst e2
        exact ⟨_, c, h1, h4, h3⟩)
      rw [hX1, hX2] at HEN
      have HSP : Hid (∀ W, Below w6.heap.size w6 W → W.cell? ⟨sb, 0, none⟩ = some (.int .i64 F) ∧ W.cell? ⟨sb, 1, none⟩ = some (.int .i64 (F + m))) := Lib.hid fun W hW => ⟨bCell hW (HS6.out.cell 0), bCell hW (HS6.out.cell 1)⟩
      have HT16 := HTD2
      have HTD1 : Hid (∀ W, Below w6.heap.size w6 W → _) := Lib.hid fun W hW => HTD1.out W (bTrans HB6.out hW)
      have HTD2 : Hid (∀ W, Below w6.heap.size w6 W → _) := Lib.hid fun W hW => HT16.out W (bTrans HB6.out hW)
      clear hR hR2 hX1 hX2 HSAME HX1 HX2 HC HT16
      go_cut [11, 12] from 65 to 72 (fun xv ev wx => (∃ A c, xv = .slice A R.length c ∧ Hid (Sl (encO X1) 13 wx wx.heap.size A R)) ∧ ev = .int .i64 0 ∧ Hid (Below w6.heap.size w6 wx))
      case first =>
        refine wp_region_use (SPS [(0, Sp.val (.slice A0 l.length c0)), (1, Sp.val (.int .u32 pe)), (10, Sp.val (.pointer (some ⟨sb, 0, none⟩))), (66, Sp.val (.slice A0 l.length c0)), (67, (spVw T1)), (68, Sp.val (.int .u32 pe)), (69, Sp.val (.agg #[.int .i64 F, .int .i64 (F + m)])), (70, (spTu X1 R)), (65, (spTu X1 R)), (71, (spSl (encO X1) 13 R)), (72, Sp.val (.int .i64 0)), (11, (spSl (encO X1) 13 R)), (12, Sp.val (.int .i64 0))]) [] [66, 67, 68, 69, 70, 65, 71, 72, 11, 12] rfl (by rfl) (by kernel_rfl) (SPS.st _) (by rfl) ?_ (opsK_all ?_) ?_
        · exact sps_start (cons_all rfl (cons_all rfl (cons_all rfl (nil_all))))
        · refine opsK_cons (by
           exact use_s [] (opOk_move rfl rfl (.inl rfl) (by kernel_rfl) (fun _ _ h => sps rfl (h.get rfl))) (by kernel_rfl) (by rfl)) ?_
          refine opsK_cons (by
           exact use_s [] (opOk_callg (fun a => #[a.eval (.tmp 66)]) rfl rfl (.inl rfl) (fun a => by simp only [List.map_toArray, List.map_cons, List.map_nil] <;> rfl) (fun args W => by go_simp) (fun a W hW hsp => by
              have e66 : a.eval (.tmp 66) = .slice A0 l.length c0 := (hsp 66 (by kernel_rfl)).get rfl
              simp only [e66]
              exact (HTD1.out _ hW).mono fun e w' ⟨⟨A2, he, hs⟩, hb⟩ => ⟨_, he, hb, sps rfl ⟨A2, rfl, hs⟩⟩)) (by kernel_rfl) (by rfl)) ?_
          refine opsK_cons (by
           exact use_s [] (opOk_move rfl rfl (.inl rfl) (by kernel_rfl) (fun _ _ h => sps rfl (h.get rfl))) (by kernel_rfl) (by rfl)) ?_
          refine opsK_cons (by
           exact use_s [] (opOk_load (p := ⟨sb, 0, none⟩) rfl rfl (.inl rfl) (by kernel_rfl) (fun _ _ h => h.get rfl) (fun W hW => by
              obtain ⟨k0, k1⟩ := HSP.out _ hW
              exact ⟨.agg #[.int .i64 F, .int .i64 (F + m)], by go_simp, sps rfl rfl⟩)) (by kernel_rfl) (by rfl)) ?_
          refine opsK_cons (by
           exact use_s [] (opOk_callg (fun a => #[a.eval (.tmp 67), a.eval (.tmp 68), a.eval (.tmp 69)]) rfl rfl (.inl rfl) (fun a => by simp only [List.map_toArray, List.map_cons, List.map_nil] <;> rfl) (fun args W => by go_simp) (fun a W hW hsp => by
              obtain ⟨A67, hv, hs67⟩ := (hsp 67 (by kernel_rfl)).get rfl
              have e67 : a.eval (.tmp 67) = .agg #[.slice A67 T1.length T1.length] := hv
              have e68 : a.eval (.tmp 68) = .int .u32 pe := (hsp 68 (by kernel_rfl)).get rfl
              have e69 : a.eval (.tmp 69) = .agg #[.int .i64 F, .int .i64 (F + m)] := (hsp 69 (by kernel_rfl)).get rfl
              simp only [e67, e68, e69]
              exact (HOF1.out _ _ hW hs67).mono fun e w' ⟨A, c, he, hs, hb⟩ => ⟨_, he, hb, sps rfl ⟨A, c, rfl, hs⟩⟩)) (by kernel_rfl) (by rfl)) ?_
          refine opsK_cons (by
           exact use_s [] (opOk_move rfl rfl (.inl rfl) (by kernel_rfl) (fun _ _ h => sps rfl (h.get rfl))) (by kernel_rfl) (by rfl)) ?_
          refine opsK_cons (by
           exact use_s [] (opOk_run rfl (.inl rfl) (fun a W hW hsp => by
              obtain ⟨A70, c70, hv, hs70⟩ := (hsp 65 (by kernel_rfl)).get rfl
              have e65 : a.eval (.tmp 65) = .tuple #[.slice A70 R.length c70, .int .i64 0] := hv
              refine ⟨.slice A70 R.length c70, ?_, sps rfl ⟨A70, c70, rfl, hs70⟩⟩
              unfold execOp
              simp only [e65]
              go_simp)) (by kernel_rfl) (by rfl)) ?_
          refine opsK_cons (by
           exact use_s [] (opOk_run rfl (.inl rfl) (fun a W hW hsp => by
              obtain ⟨A70, c70, hv, hs70⟩ := (hsp 65 (by kernel_rfl)).get rfl
              have e65 : a.eval (.tmp 65) = .tuple #[.slice A70 R.length c70, .int .i64 0] := hv
              refine ⟨.int .i64 0, ?_, sps rfl rfl⟩
              unfold execOp
              simp only [e65]
              go_simp)) (by kernel_rfl) (by rfl)) ?_
          refine opsK_cons (by
           exact use_s [] (opOk_assign rfl rfl (.inl rfl) (by kernel_rfl) (fun _ _ h => sps rfl (h.get rfl))) (by kernel_rfl) (by rfl)) ?_
          refine opsK_cons (by
           exact use_s [] (opOk_assign rfl rfl (.inl rfl) (by kernel_rfl) (fun _ _ h => sps rfl (h.get rfl))) (by kernel_rfl) (by rfl)) ?_
          exact opsK_nil
        · intro vs W3 hb hsp
          obtain ⟨Az, cz, z1, hz⟩ := (hsp 11 (by simp)).get rfl
          have z2 := (hsp 12 (by simp)).get rfl
          simp only [putAll]
          go_simp
          go_step
          go_meet
          exact ⟨⟨Az, cz, by first | rfl | exact z1, Lib.hid hz⟩, by first | rfl | exact z2, Lib.hid hb⟩
      case rest =>
      obtain ⟨⟨Ax, cx, rfl, HXR⟩, rfl, HB7⟩ := hcut
      obtain ⟨w7, rfl⟩ : ∃ x : World, x = wc := ⟨_, rfl⟩
      have HSP6 := HSP
      have HOF6 := HOF2
      have HTD6 := HTD2
      have HSP : Hid (∀ W, Below w7.heap.size w7 W → _) := Lib.hid fun W hW => HSP6.out W (bTrans HB7.out hW)
      have HOF2 : Hid (∀ A W, Below w7.heap.size w7 W → _) := Lib.hid fun A W hW => HOF6.out A W (bTrans HB7.out hW)
      have HTD2 : Hid (∀ W, Below w7.heap.size w7 W → _) := Lib.hid fun W hW => HTD6.out W (bTrans HB7.out hW)
      clear HOF1 HTD1 HSP6 HOF6 HTD6
      go_upto_region 16 with fail
      go_cut [13, 14] from 73 to 80 (fun xv ev wx => (∃ A c, xv = .slice A R.length c ∧ Hid (Sl (encO X2) 13 wx wx.heap.size A R)) ∧ ev = .int .i64 0 ∧ Hid (Below w7.heap.size w7 wx))
      case first =>
        refine wp_region_use (SPS [(7, Sp.val (.slice A7 M.length c7)), (1, Sp.val (.int .u32 pe)), (10, Sp.val (.pointer (some ⟨sb, 0, none⟩))), (74, Sp.val (.slice A7 M.length c7)), (75, (spVw T2)), (76, Sp.val (.int .u32 pe)), (77, Sp.val (.agg #[.int .i64 F, .int .i64 (F + m)])), (78, (spTu X2 R)), (73, (spTu X2 R)), (79, (spSl (encO X2) 13 R)), (80, Sp.val (.int .i64 0)), (13, (spSl (encO X2) 13 R)), (14, Sp.val (.int .i64 0))]) [] [74, 75, 76, 77, 78, 73, 79, 80, 13, 14] rfl (by rfl) (by kernel_rfl) (SPS.st _) (by rfl) ?_ (opsK_all ?_) ?_
        · exact sps_start (cons_all rfl (cons_all rfl (cons_all rfl (nil_all))))
        · refine opsK_cons (by
           exact use_s [] (opOk_move rfl rfl (.inl rfl) (by kernel_rfl) (fun _ _ h => sps rfl (h.get rfl))) (by kernel_rfl) (by rfl)) ?_
          refine opsK_cons (by
           exact use_s [] (opOk_callg (fun a => #[a.eval (.tmp 74)]) rfl rfl (.inl rfl) (fun a => by simp only [List.map_toArray, List.map_cons, List.map_nil] <;> rfl) (fun args W => by go_simp) (fun a W hW hsp => by
              have e74 : a.eval (.tmp 74) = .slice A7 M.length c7 := (hsp 74 (by kernel_rfl)).get rfl
              simp only [e74]
              exact (HTD2.out _ hW).mono fun e w' ⟨⟨A2, he, hs⟩, hb⟩ => ⟨_, he, hb, sps rfl ⟨A2, rfl, hs⟩⟩)) (by kernel_rfl) (by rfl)) ?_
          refine opsK_cons (by
           exact use_s [] (opOk_move rfl rfl (.inl rfl) (by kernel_rfl) (fun _ _ h => sps rfl (h.get rfl))) (by kernel_rfl) (by rfl)) ?_
          refine opsK_cons (by
           exact use_s [] (opOk_load (p := ⟨sb, 0, none⟩) rfl rfl (.inl rfl) (by kernel_rfl) (fun _ _ h => h.get rfl) (fun W hW => by
              obtain ⟨k0, k1⟩ := HSP.out _ hW
              exact ⟨.agg #[.int .i64 F, .int .i64 (F + m)], by go_simp, sps rfl rfl⟩)) (by kernel_rfl) (by rfl)) ?_
          refine opsK_cons (by
           exact use_s [] (opOk_callg (fun a => #[a.eval (.tmp 75), a.eval (.tmp 76), a.eval (.tmp 77)]) rfl rfl (.inl rfl) (fun a => by simp only [List.map_toArray, List.map_cons, List.map_nil] <;> rfl) (fun args W => by go_simp) (fun a W hW hsp => by
              obtain ⟨A75, hv, hs75⟩ := (hsp 75 (by kernel_rfl)).get rfl
              have e75 : a.eval (.tmp 75) = .agg #[.slice A75 T2.length T2.length] := hv
              have e76 : a.eval (.tmp 76) = .int .u32 pe := (hsp 76 (by kernel_rfl)).get rfl
              have e77 : a.eval (.tmp 77) = .agg #[.int .i64 F, .int .i64 (F + m)] := (hsp 77 (by kernel_rfl)).get rfl
              simp only [e75, e76, e77]
              exact (HOF2.out _ _ hW hs75).mono fun e w' ⟨A, c, he, hs, hb⟩ => ⟨_, he, hb, sps rfl ⟨A, c, rfl, hs⟩⟩)) (by kernel_rfl) (by rfl)) ?_
          refine opsK_cons (by
           exact use_s [] (opOk_move rfl rfl (.inl rfl) (by kernel_rfl) (fun _ _ h => sps rfl (h.get rfl))) (by kernel_rfl) (by rfl)) ?_
          refine opsK_cons (by
           exact use_s [] (opOk_run rfl (.inl rfl) (fun a W hW hsp => by
              obtain ⟨A78, c78, hv, hs78⟩ := (hsp 73 (by kernel_rfl)).get rfl
              have e73 : a.eval (.tmp 73) = .tuple #[.slice A78 R.length c78, .int .i64 0] := hv
              refine ⟨.slice A78 R.length c78, ?_, sps rfl ⟨A78, c78, rfl, hs78⟩⟩
              unfold execOp
              simp only [e73]
              go_simp)) (by kernel_rfl) (by rfl)) ?_
          refine opsK_cons (by
           exact use_s [] (opOk_run rfl (.inl rfl) (fun a W hW hsp => by
              obtain ⟨A78, c78, hv, hs78⟩ := (hsp 73 (by kernel_rfl)).get rfl
              have e73 : a.eval (.tmp 73) = .tuple #[.slice A78 R.length c78, .int .i64 0] := hv
              refine ⟨.int .i64 0, ?_, sps rfl rfl⟩
              unfold execOp
              simp only [e73]
              go_simp)) (by kernel_rfl) (by rfl)) ?_
          refine opsK_cons (by
           exact use_s [] (opOk_assign rfl rfl (.inl rfl) (by kernel_rfl) (fun _ _ h => sps rfl (h.get rfl))) (by kernel_rfl) (by rfl)) ?_
          refine opsK_cons (by
           exact use_s [] (opOk_assign rfl rfl (.inl rfl) (by kernel_rfl) (fun _ _ h => sps rfl (h.get rfl))) (by kernel_rfl) (by rfl)) ?_
          exact opsK_nil
        · intro vs W3 hb hsp
          obtain ⟨Az, cz, z1, hz⟩ := (hsp 13 (by simp)).get rfl
          have z2 := (hsp 14 (by simp)).get rfl
          simp only [putAll]
          go_simp
          go_step
          go_meet
          exact ⟨⟨Az, cz, by first | rfl | exact z1, Lib.hid hz⟩, by first | rfl | exact z2, Lib.hid hb⟩
      case rest =>
      obtain ⟨⟨Ay, cy, rfl, HYR⟩, rfl, HB8⟩ := hcut
      obtain ⟨w8, rfl⟩ : ∃ x : World, x = wc := ⟨_, rfl⟩
      have HX11 : Hid (Sl (encO X1) 13 w8 w8.heap.size Ax R) := Lib.hid (sl_bel HXR.out HB8.out)
      have HBW8 : Hid (Below w.heap.size w w8) := Lib.hid (bTrans HBW.out (bTrans HB6.out (bTrans HB7.out HB8.out)))
      clear HOF2 HTD2 HSP HXR
      go_wp2
      go_loopw [15] (fun iv wq => ∃ j : Nat, j ≤ R.length ∧ iv = .int .i64 j ∧ Hid (Below w8.heap.size w8 wq)) (fun iv _ => R.length - (intOf iv).toNat)
      case atStart => exact ⟨0, Nat.zero_le _, rfl, Lib.hid (Below.refl _ _)⟩
      case round =>
        obtain ⟨j, hj, rfl, HQ⟩ := hrel
        by_cases hjl : j < R.length
        · obtain ⟨⟨q1, q2⟩, hp⟩ : ∃ q, R[j]? = some q := ⟨_, List.getElem?_eq_getElem hjl⟩
          obtain ⟨g1, o1, rfl, _, hat1⟩ := HX11.out (by intro h; simp [h] at hjl)
          obtain ⟨g2, o2, rfl, _, hat2⟩ := HYR.out (by intro h; simp [h] at hjl)
          obtain ⟨t, ht⟩ : ∃ t, onX X1 q1 = t := ⟨_, rfl⟩
          have henc : encO X1 (q1, q2) = (tdC { t with fr := q1, «to» := q2 }).toList := by rw [← ht]; rfl
          have henc2 : encO X2 (q1, q2) = (tdC { t with fr := q1, «to» := q2 }).toList := by rw [← HEN.out _ (List.mem_of_getElem? hp)]; exact henc
          obtain ⟨K0, K1, K2, K3, K4, K5, K6, K7, K8, K9, K10, K11, K12⟩ : (wr.cell? ⟨g1, o1 + j * 13, none⟩ = some (.int .i64 q1) ∧ wr.cell? ⟨g1, o1 + j * 13 + 1, none⟩ = some (.int .i64 q2) ∧ wr.cell? ⟨g1, o1 + j * 13 + 2, none⟩ = some (.bool t.em) ∧ wr.cell? ⟨g1, o1 + j * 13 + 3, none⟩ = some (.int .i64 t.sa) ∧ wr.cell? ⟨g1, o1 + j * 13 + 4, none⟩ = some (.int .i64 t.pa) ∧ wr.cell? ⟨g1, o1 + j * 13 + 5, none⟩ = some (.int .i64 (t.h 0)) ∧ wr.cell? ⟨g1, o1 + j * 13 + 6, none⟩ = some (.int .i64 (t.h 1)) ∧ wr.cell? ⟨g1, o1 + j * 13 + 7, none⟩ = some (.int .i64 (t.h 2)) ∧ wr.cell? ⟨g1, o1 + j * 13 + 8, none⟩ = some (.int .i64 (t.h 3)) ∧ wr.cell? ⟨g1, o1 + j * 13 + 9, none⟩ = some (.int .i64 (t.h 4)) ∧ wr.cell? ⟨g1, o1 + j * 13 + 10, none⟩ = some (.int .i64 (t.h 5)) ∧ wr.cell? ⟨g1, o1 + j * 13 + 11, none⟩ = some (.int .i64 (t.h 6)) ∧ wr.cell? ⟨g1, o1 + j * 13 + 12, none⟩ = some (.string t.co)) := cell13 (td := { t with fr := q1, «to» := q2 }) hp henc (fun i x hx j u hu => bCell HQ.out (hat1 i x hx j u hu))
          obtain ⟨M0, M1, M2, M3, M4, M5, M6, M7, M8, M9, M10, M11, M12⟩ : (wr.cell? ⟨g2, o2 + j * 13, none⟩ = some (.int .i64 q1) ∧ wr.cell? ⟨g2, o2 + j * 13 + 1, none⟩ = some (.int .i64 q2) ∧ wr.cell? ⟨g2, o2 + j * 13 + 2, none⟩ = some (.bool t.em) ∧ wr.cell? ⟨g2, o2 + j * 13 + 3, none⟩ = some (.int .i64 t.sa) ∧ wr.cell? ⟨g2, o2 + j * 13 + 4, none⟩ = some (.int .i64 t.pa) ∧ wr.cell? ⟨g2, o2 + j * 13 + 5, none⟩ = some (.int .i64 (t.h 0)) ∧ wr.cell? ⟨g2, o2 + j * 13 + 6, none⟩ = some (.int .i64 (t.h 1)) ∧ wr.cell? ⟨g2, o2 + j * 13 + 7, none⟩ = some (.int .i64 (t.h 2)) ∧ wr.cell? ⟨g2, o2 + j * 13 + 8, none⟩ = some (.int .i64 (t.h 3)) ∧ wr.cell? ⟨g2, o2 + j * 13 + 9, none⟩ = some (.int .i64 (t.h 4)) ∧ wr.cell? ⟨g2, o2 + j * 13 + 10, none⟩ = some (.int .i64 (t.h 5)) ∧ wr.cell? ⟨g2, o2 + j * 13 + 11, none⟩ = some (.int .i64 (t.h 6)) ∧ wr.cell? ⟨g2, o2 + j * 13 + 12, none⟩ = some (.string t.co)) := cell13 (td := { t with fr := q1, «to» := q2 }) hp henc2 (fun i x hx j u hu => bCell HQ.out (hat2 i x hx j u hu))
          have hjl2 : (j : Int) < (R.length : Int) := by omega
          have hq := run_neTd2 t q1 q2
          clear hp hat1 hat2 ht henc henc2
          go_upto_region 22 with fail
          go_quiet (fail)
          rename_i nq
          have HQn : Hid (Below w8.heap.size w8 (wr.drewN nq)) := Lib.hid (HQ.out.trans ((bDrewN wr nq).mono HQ.out.size))
          clear K0 K1 K2 K3 K4 K5 K6 K7 K8 K9 K10 K11 K12 M0 M1 M2 M3 M4 M5 M6 M7 M8 M9 M10 M11 M12 hq HQ
          go_wp2
          exact ⟨⟨j + 1, by omega, by go_num, HQn⟩, by simp [intOf]; omega⟩
        · obtain rfl : j = R.length := by omega
          have HB0 := Lib.hid (bTrans HBW8.out HQ.out)
          go_wp2_with fail
          refine (HAW.out _ HB0.out).mono ?_
          rintro e w9 ⟨rfl, hb9⟩
          have HF := Lib.hid (bTrans HB0.out hb9)
          clear hb9
          go_wp2
          go_ret
          exact ⟨rfl, HF.out⟩
end Go.Proofs.YtlgoaohklggcdaaGreatDoor

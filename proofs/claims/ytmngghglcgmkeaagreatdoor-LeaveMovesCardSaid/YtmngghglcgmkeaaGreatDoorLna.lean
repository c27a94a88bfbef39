/- Merged from: Ln1 Ln2. -/
import Derived.Test.YtmngghglcgmkeaaGreatDoorDks
import Derived.Test.YtmngghglcgmkeaaGreatDoorChks
import Derived.Test.YtmngghglcgmkeaaGreatDoorRegs
namespace Go.Proofs.YtmngghglcgmkeaaGreatDoor
open Go.RowKit Go.Sort

theorem box8 {W : World} {fb : Nat} {f : Fa} {T : TypeId} (h : Bk fb T (FA f) W) : W.cell? ⟨fb, 0, none⟩ = some (.int .u32 f.id) ∧ W.cell? ⟨fb, 1, none⟩ = some (.int .u32 f.pe) ∧ W.cell? ⟨fb, 2, none⟩ = some (.int .i64 f.ki) ∧ W.cell? ⟨fb, 3, none⟩ = some (.int .i64 f.fr) ∧ W.cell? ⟨fb, 4, none⟩ = some (.int .i64 f.to) ∧ W.cell? ⟨fb, 5, none⟩ = some (.string f.co) ∧ W.cell? ⟨fb, 6, none⟩ = some (.int .i64 f.nu) ∧ W.cell? ⟨fb, 7, none⟩ = some (.string f.tx) :=
  ⟨h.cell 0, h.cell 1, h.cell 2, h.cell 3, h.cell 4, h.cell 5, h.cell 6, h.cell 7⟩
theorem chk_kind {f : Fa} (h : chkF f = 0) : 1 ≤ f.ki ∧ f.ki ≤ 18 := by
  unfold chkF at h
  by_cases h0 : f.ki < 1 ∨ 18 < f.ki
  · rw [if_pos h0] at h; cases h
  · omega
/-- Does a fact cover a day? -/
def coverB (f : Fa) (d : Int) : Bool := decide (chkF f = 0 ∧ f.ki ≠ 18) && (if daysB f.ki = true then decide (f.fr ≤ d ∧ (f.to = 0 ∨ d < f.to)) else decide (d = f.fr))
theorem run_ruleDays (nm : ByteArray) (tf cf : Nat) (fi da : Bool) (lo hi : Int) (w : World) : (Instr.field 114 (.agg #[.string nm, .bool fi, .bool da, .func (.func cf) #[] #[], .int .i64 lo, .int .i64 hi, .func (.func tf) #[] #[]]) 2).run Tryz.prog w = .ok (.bool da) w := by
  first | (kernel_rfl; done) | (simp [Instr.field, asAgg, Tryz.underlying114, go_sem]; done)
abbrev OwnK (B : Nat) (v : Value) (l : List Kn) (w : World) : Prop := Own encK 9 67 B v l w
abbrev SlK1 (w : World) (A : Option Addr) (L : List Kn) : Prop := Sl encK 9 w w.heap.size A L
theorem sliceK_new (w : World) : Own encK 9 67 w.heap.size (.slice (some ⟨w.heap.size, 0, none⟩) 0 0) [] (w.alloc (.cells #[] 67)) := own_empty (Bk.new w _ #[]) (Nat.le_refl _)
set_option maxRecDepth 10000 in
theorem li_Clone (L : List Kn) (A : Option Addr) (cap : Nat) (w : World) (hn : L.length ≤ maxLen) (hr : L.length * 80 ≤ 140737488355328) (hs : SlK' w A L) :
    Calls Tryz.prog 58 #[.slice A L.length cap] w fun e w' => (∃ A' c', e = .returned (.slice A' L.length c') ∧ OwnK w.heap.size (.slice A' L.length c') L w') ∧ Below w.heap.size w w' := by
  obtain ⟨i, hi1, hz, hsize, hby⟩ := info_parts knownInfo
  have q58 : ∀ (w : World) (a : Option Addr) (n c n' c' : Nat), (binOp .eql 64 (.slice a n c) (.slice none n' c')).run Tryz.prog w = .ok (.bool a.isNone) w := fun w a n c n' c' => Lib.run_eql_slice_nil w _ _ a n c n' c' Tryz.underlying64
  cases A with
  | none =>
    have h0 : L = [] := by
      cases L with
      | nil => rfl
      | cons x r => obtain ⟨b, off, e, _⟩ := hs (by simp); cases e
    subst h0
    clear hs hn hr
    go_enter Tryz.func58, Tryz.ntmps58
    go_wp2
    go_ret
    exact ⟨⟨none, 0, rfl, Own.nil _⟩, Below.refl _ _⟩
  | some ad =>
    have hnews : Hid (∀ j u, (rowOf encK L)[j]? = some u → w.cell? (ad.add j) = some u) := Lib.hid fun j u hu => by
      have hl : L ≠ [] := by intro h; subst h; simp [rowOf] at hu
      obtain ⟨b, off, e, hlt, hc⟩ := hs hl
      cases e
      rw [Addr.add_lit]
      exact Sl.newsN encK_len hc j u hu
    clear hs
    go_enter Tryz.func58, Tryz.ntmps58
    go_wp2_with (at_builtin; refine wpList_append_own _ rfl _ _ 64 rfl w.heap.size 67 i _ 9 80 Tryz.underlying64 hi1 hz hsize hby rfl (by decide) _ 0 [] rfl (sliceK_new w) ad L.length cap (rowOf encK L) rfl ?q1 ?q2 ?q3 ?q4 ?q5 ?q6 ?_)
    case q1 => exact rowOf_length encK_len L
    case q2 => exact fun j u hu => Lib.cell?_alloc_some _ (hnews.out j u hu)
    case q3 =>
      intro u hu
      unfold rowOf at hu
      rw [List.mem_flatMap] at hu
      obtain ⟨x, _, hx⟩ := hu
      exact encK_one x u hx
    case q4 => rw [Nat.zero_add]; exact hn
    case q5 => rw [Nat.zero_add]; exact hr
    case q6 => exact Nat.le_of_lt (size_new _ _)
    intro v' w1 hown hgrow _
    have ho : OwnK w.heap.size v' L w1 := hown
    obtain ⟨A', c', rfl, _, _⟩ := own_sl encK_len ho
    have HS := Lib.hid ho
    have HB : Hid (Below w.heap.size w w1) := Lib.hid (bel_own (bAlloc w _) (Nat.le_of_lt (size_new _ _)) (sliceK_new w) hgrow)
    clear hown hgrow ho
    go_wp2
    go_ret
    exact ⟨⟨A', c', rfl, HS.out⟩, HB.out⟩
theorem li_Of (X : List Kn) (A : Option Addr) (cap : Nat) (w : World) (hn : X.length ≤ 1000000) (hs : SlK1 w A X) :
    Calls Tryz.prog 31 #[.slice A X.length cap] w fun e w' => (∃ A' c', e = .returned (.agg #[.slice A' X.length c']) ∧ OwnK w.heap.size (.slice A' X.length c') X w') ∧ Below w.heap.size w w' := by
  obtain ⟨rb, hrb⟩ : ∃ x, w.heap.size = x := ⟨_, rfl⟩
  obtain ⟨w2, hw2⟩ : ∃ x, w.alloc (.cells #[.slice none 0 0] 84) = x := ⟨_, rfl⟩
  have HK2 : Hid (Bk rb 84 #[.slice none 0 0] w2) := Lib.hid (by rw [← hw2, ← hrb]; exact Bk.new _ _ _)
  have HB2 : Hid (Below w.heap.size w w2) := Lib.hid (by rw [← hw2]; exact bAlloc _ _)
  have HRW : Hid (w.heap.size ≤ rb) := Lib.hid (by omega)
  have HCL := Lib.hid (li_Clone X A cap w2 (by simp only [maxLen]; omega) (by omega) (sl_bel hs HB2.out))
  have HE2 := Lib.hid (And.intro hrb hw2)
  clear hs hrb hw2
  go_enter Tryz.func31, Tryz.ntmps31
  go_upto_region 1 with fail
  rw [HE2.out.1, HE2.out.2]
  clear HE2
  go_wp2_with fail
  refine HCL.out.mono ?_
  rintro e w3 ⟨⟨A', c', rfl, ho⟩, hb3⟩
  have hk3 : Bk rb 84 #[.slice none 0 0] w3 := (hb3.block rb HK2.out.lt).trans HK2.out
  have R0 : w3.cell? ⟨rb, 0, none⟩ = some (.slice none 0 0) := hk3.cell 0
  have G0 : w3.frozen? ⟨rb, 0, none⟩ = false := hk3.frozen 0
  have HFIN : Hid (∀ u, (w3.setCell ⟨rb, 0, none⟩ u).cell? ⟨rb, 0, none⟩ = some u ∧ Below w.heap.size w (w3.setCell ⟨rb, 0, none⟩ u) ∧ OwnK w.heap.size (.slice A' X.length c') X (w3.setCell ⟨rb, 0, none⟩ u)) := Lib.hid fun u => by
    have h1 := own_down ho HB2.out.size
    exact ⟨(hk3.set_ 0 u).cell 0, (bTrans HB2.out hb3).setCell (p := ⟨rb, 0, none⟩) HRW.out u, h1.kept (gSet w3 0 u) (.inr fun he => h1.ne_ hk3 (by decide) he.symm)⟩
  clear hk3 ho hb3 HCL
  go_wp2
  obtain ⟨z0, z1, z2⟩ := HFIN.out (.slice A' X.length c')
  exact bodyPost_ret (v := .agg #[.slice A' X.length c']) (by simp [results, Tryz.results31, go_sem, z0]) rfl ⟨⟨A', c', rfl, z2⟩, z1⟩
/-- Is a fact in force on a day, by its days? -/
def inB (f : Fa) (d : Int) : Bool := decide (f.fr ≤ d) && ((f.to == 0) || decide (d < f.to))
def nAt (X : List Kn) (i : Int) : Int := match X[i.toNat]? with
  | some y => y.1
  | none => 0
/-- The place of the fact in force on a day, among the first k. -/
def plc (X : List Kn) (d : Int) : Nat → Int
  | 0 => -1
  | k + 1 => match X[k]? with
    | some x => if (inB x.2 d && (decide (plc X d k < 0) || decide (nAt X (plc X d k) < x.1))) = true then (k : Int) else plc X d k
    | none => plc X d k
theorem plc_succ {X : List Kn} {d : Int} {k : Nat} {x : Kn} (h : X[k]? = some x) : plc X d (k + 1) = if (inB x.2 d && (decide (plc X d k < 0) || decide (nAt X (plc X d k) < x.1))) = true then (k : Int) else plc X d k := by
  rw [plc, h]
theorem plc_bd (X : List Kn) (d : Int) : ∀ k, plc X d k = -1 ∨ ∃ j : Nat, plc X d k = j ∧ j < k ∧ j < X.length
  | 0 => .inl rfl
  | k + 1 => by
    cases hx : X[k]? with
    | none =>
      rw [plc, hx]
      rcases plc_bd X d k with h | ⟨j, h1, h2, h3⟩
      · exact .inl h
      · exact .inr ⟨j, h1, by omega, h3⟩
    | some x =>
      rw [plc_succ hx]
      split
      · exact .inr ⟨k, rfl, by omega, (List.getElem?_eq_some_iff.1 hx).1⟩
      · rcases plc_bd X d k with h | ⟨j, h1, h2, h3⟩
        · exact .inl h
        · exact .inr ⟨j, h1, by omega, h3⟩
/-- The value of a fact, by its place. -/
def valL (X : List Kn) (q : Int) : Int × Int × ByteArray := if q < 0 then (0, 0, ⟨#[]⟩) else match X[q.toNat]? with
  | some x => (x.1, x.2.nu, x.2.tx)
  | none => (0, 0, ⟨#[]⟩)
theorem kcells {W : World} {b off k : Nat} {x : Kn} (h : ∀ j u, (encK x)[j]? = some u → W.cell? ⟨b, off + k * 9 + j, none⟩ = some u) : W.cell? ⟨b, off + k * 9, none⟩ = some (.int .i64 x.1) ∧ W.cell? ⟨b, off + k * 9 + 1, none⟩ = some (.int .u32 x.2.id) ∧ W.cell? ⟨b, off + k * 9 + 2, none⟩ = some (.int .u32 x.2.pe) ∧ W.cell? ⟨b, off + k * 9 + 3, none⟩ = some (.int .i64 x.2.ki) ∧ W.cell? ⟨b, off + k * 9 + 4, none⟩ = some (.int .i64 x.2.fr) ∧ W.cell? ⟨b, off + k * 9 + 5, none⟩ = some (.int .i64 x.2.to) ∧ W.cell? ⟨b, off + k * 9 + 6, none⟩ = some (.string x.2.co) ∧ W.cell? ⟨b, off + k * 9 + 7, none⟩ = some (.int .i64 x.2.nu) ∧ W.cell? ⟨b, off + k * 9 + 8, none⟩ = some (.string x.2.tx) :=
  ⟨h 0 _ rfl, h 1 _ rfl, h 2 _ rfl, h 3 _ rfl, h 4 _ rfl, h 5 _ rfl, h 6 _ rfl, h 7 _ rfl, h 8 _ rfl⟩
set_option maxHeartbeats 8000000 in
set_option maxRecDepth 100000 in
theorem li_place (X : List Kn) (d : Int) (A : Option Addr) (cap : Nat) (w : World) (hn : X.length ≤ 1000000) (hs : SlK1 w A X) :
    Calls Tryz.prog 93 #[.agg #[.slice A X.length cap], .int .i64 d] w fun e w' => e = .returned (.int .i64 (plc X d X.length)) ∧ Below w.heap.size w w' := by
  obtain ⟨lb, hlb⟩ : ∃ x, w.heap.size = x := ⟨_, rfl⟩
  obtain ⟨w2, hw2⟩ : ∃ x, w.alloc (.cells #[.slice A X.length cap] 84) = x := ⟨_, rfl⟩
  have hk2 : Bk lb 84 #[.slice A X.length cap] w2 := by rw [← hw2, ← hlb]; exact Bk.new _ _ _
  have hb2 : Below w.heap.size w w2 := by rw [← hw2]; exact bAlloc _ _
  have HB2 := Lib.hid hb2
  have HC : Hid (∀ W, Below w2.heap.size w2 W → W.cell? ⟨lb, 0, none⟩ = some (.slice A X.length cap) ∧ SlK1 W A X) := Lib.hid fun W hW => ⟨bCell hW (hk2.cell 0), sl_bel hs (bTrans hb2 hW)⟩
  have HE2 := Lib.hid (And.intro hlb hw2)
  clear hs hlb hw2 hk2 hb2
  go_enter Tryz.func93, Tryz.ntmps93
  go_upto_region 2 with fail
  rw [HE2.out.1, HE2.out.2]
  clear HE2
  obtain ⟨L0, _⟩ := HC.out w2 (Below.refl _ _)
  go_wp2
  go_loopw [5, 11] (fun qv iv wr => ∃ k : Nat, k ≤ X.length ∧ iv = .int .i64 k ∧ (∃ q : Int, qv = .int .i64 q ∧ Hid (plc X d k = q)) ∧ Hid (Below w2.heap.size w2 wr)) (fun _ iv _ => X.length - (intOf iv).toNat)
  case atStart => exact ⟨0, Nat.zero_le _, rfl, ⟨-1, rfl, Lib.hid rfl⟩, Lib.hid (Below.refl _ _)⟩
  case round =>
    clear L0
    obtain ⟨k, hk, rfl, ⟨q, rfl, HQ⟩, HB⟩ := hrel
    by_cases hlt : k < X.length
    · obtain ⟨x, hx⟩ : ∃ x, X[k]? = some x := ⟨_, List.getElem?_eq_getElem hlt⟩
      obtain ⟨_, hsl⟩ := HC.out wr HB.out
      obtain ⟨b, off, rfl, hbl, hat⟩ := hsl (by intro h; simp [h] at hlt)
      obtain ⟨G0, G1, G2, G3, G4, G5, G6, G7, G8⟩ := kcells (hat k x hx)
      have hlt2 : (k : Int) < (X.length : Int) := by omega
      have HPS := Lib.hid (plc_succ (d := d) hx)
      rw [HQ.out] at HPS
      have hqb : q = -1 ∨ ∃ j : Nat, q = j ∧ j < k ∧ j < X.length := by rw [← HQ.out]; exact plc_bd X d k
      obtain ⟨kb, hkb⟩ : ∃ z, wr.heap.size = z := ⟨_, rfl⟩
      obtain ⟨w4, hw4⟩ : ∃ z, wr.alloc (.cells #[.int .i64 x.1, .int .u32 x.2.id, .int .u32 x.2.pe, .int .i64 x.2.ki, .int .i64 x.2.fr, .int .i64 x.2.to, .string x.2.co, .int .i64 x.2.nu, .string x.2.tx] 67) = z := ⟨_, rfl⟩
      have HK4 : Hid (Bk kb 67 #[.int .i64 x.1, .int .u32 x.2.id, .int .u32 x.2.pe, .int .i64 x.2.ki, .int .i64 x.2.fr, .int .i64 x.2.to, .string x.2.co, .int .i64 x.2.nu, .string x.2.tx] w4) := Lib.hid (by rw [← hw4, ← hkb]; exact Bk.new _ _ _)
      have HB4 : Hid (Below w2.heap.size w2 w4) := Lib.hid (by rw [← hw4]; exact bTrans HB.out (bAlloc wr _))
      have HE := Lib.hid (And.intro hkb hw4)
      have HAT : Hid (∀ (j : Nat) y, X[j]? = some y → w4.cell? ⟨b, off + j * 9, none⟩ = some (.int .i64 y.1)) := Lib.hid fun j y hy => by rw [← hw4]; exact bCell (bAlloc _ _) (hat j y hy 0 _ rfl)
      obtain ⟨L0, _⟩ := HC.out w4 HB4.out
      clear hat hsl hkb hw4 hx
      go_upto_region 5 with fail
      rw [HE.out.1, HE.out.2]
      clear G0 G1 G2 G3 G4 G5 G6 G7 G8 HE
      have E0 : w4.cell? ⟨kb, 0, none⟩ = some (.int .i64 x.1) := HK4.out.cell 0
      have E4 : w4.cell? ⟨kb, 4, none⟩ = some (.int .i64 x.2.fr) := HK4.out.cell 4
      have E5 : w4.cell? ⟨kb, 5, none⟩ = some (.int .i64 x.2.to) := HK4.out.cell 5
      obtain ⟨cn, hcn⟩ : ∃ z, (inB x.2 d && (decide (q < 0) || decide (nAt X q < x.1))) = z := ⟨_, rfl⟩
      rw [hcn] at HPS
      have HCN := Lib.hid hcn
      clear hcn
      go_cut [48] from 16 to 48 (fun qq wx => qq = .bool cn ∧ Hid (Below w4.heap.size w4 wx))
      case first =>
        obtain ⟨x1, b1⟩ : ∃ z, decide (x.2.fr ≤ d) = z := ⟨_, rfl⟩
        obtain ⟨x2, b2⟩ : ∃ z, (x.2.to == 0) = z := ⟨_, rfl⟩
        obtain ⟨x3, b3⟩ : ∃ z, decide (d < x.2.to) = z := ⟨_, rfl⟩
        have HIN : Hid (inB x.2 d = (x1 && (x2 || x3))) := Lib.hid (by unfold inB; rw [b1, b2, b3])
        rw [HIN.out] at HCN
        rcases hqb with rfl | ⟨j, rfl, hj1, hj2⟩
        · have HC2 : Hid (cn = (x1 && (x2 || x3))) := Lib.hid (by rw [← HCN.out]; simp)
          cases x1 <;> cases x2 <;> cases x3
          all_goals
            go_quiet (fail)
            go_wp2
            go_meet
            exact ⟨by rw [HC2.out]; rfl, Lib.hid (bDrewN _ _)⟩
        · obtain ⟨y, hy⟩ : ∃ y, X[j]? = some y := ⟨_, List.getElem?_eq_getElem hj2⟩
          have J0 := HAT.out j y hy
          obtain ⟨x5, b5⟩ : ∃ z, decide (y.1 < x.1) = z := ⟨_, rfl⟩
          have b4 : decide ((j : Int) < 0) = false := decide_eq_false (by omega)
          have hj3 : (j : Int) < (X.length : Int) := by omega
          have HC2 : Hid (cn = (x1 && (x2 || x3) && x5)) := Lib.hid (by
            rw [← HCN.out, b4, ← b5]
            unfold nAt
            rw [Int.toNat_natCast, hy]
            simp)
          clear hy
          cases x1 <;> cases x2 <;> cases x3 <;> cases x5
          all_goals
            go_quiet (fail)
            go_wp2
            go_meet
            exact ⟨by rw [HC2.out]; rfl, Lib.hid (bDrewN _ _)⟩
      case rest =>
        obtain ⟨rfl, HX⟩ := hcut
        have HBn := Lib.hid (bTrans HB4.out HX.out)
        clear E0 E4 E5 L0
        cases cn with
        | false =>
          have HP2 : Hid (plc X d (k + 1) = q) := Lib.hid (by rw [HPS.out, if_neg (by simp)])
          go_wp2
          exact ⟨⟨k + 1, by omega, by go_num, ⟨q, rfl, HP2⟩, HBn⟩, by simp [intOf]; omega⟩
        | true =>
          have HP2 : Hid (plc X d (k + 1) = (k : Int)) := Lib.hid (by rw [HPS.out, if_pos rfl])
          go_wp2
          exact ⟨⟨k + 1, by omega, by go_num, ⟨(k : Int), rfl, HP2⟩, HBn⟩, by simp [intOf]; omega⟩
    · obtain rfl : k = X.length := by omega
      go_wp2
      go_ret
      exact ⟨ret_i HQ.out.symm, bTrans HB2.out HB.out⟩
end Go.Proofs.YtmngghglcgmkeaaGreatDoor

namespace Go.Proofs.YtmngghglcgmkeaaGreatDoor
open Go.RowKit Go.Sort

theorem bkk2 (w : World) (c d : Array Value) (t u : TypeId) {p q : Nat} {w2 : World} (h1 : w.heap.size = p) (h2 : p + 1 = q) (hw : (w.alloc (.cells c t)).alloc (.cells d u) = w2) : Bk p t c w2 ∧ Bk q u d w2 ∧ Below w.heap.size w w2 := by
  subst hw; subst h2; subst h1
  have b1 : Bk w.heap.size t c (w.alloc (.cells c t)) := Bk.new _ _ _
  have b2 : Bk (w.heap.size + 1) u d ((w.alloc (.cells c t)).alloc (.cells d u)) := by
    have := Bk.new (w.alloc (.cells c t)) u d
    rwa [show (w.alloc (.cells c t)).heap.size = w.heap.size + 1 by simp] at this
  exact ⟨b1.grows (.of_alloc _ _), b2, bTrans (bAlloc w _) (bAlloc _ _)⟩
theorem valL_neg {X : List Kn} {q : Int} (h : q < 0) : valL X q = (0, 0, ⟨#[]⟩) := if_pos h
theorem valL_at {X : List Kn} {j : Nat} {x : Kn} (h : X[j]? = some x) : valL X (j : Int) = (x.1, x.2.nu, x.2.tx) := by
  unfold valL
  rw [if_neg (by omega), Int.toNat_natCast, h]
set_option maxHeartbeats 4000000 in
set_option maxRecDepth 100000 in
theorem li_value (X : List Kn) (q : Int) (A : Option Addr) (cap : Nat) (w : World) (hs : SlK1 w A X) (hq : q = -1 ∨ ∃ j : Nat, q = j ∧ j < X.length) :
    Calls Tryz.prog 60 #[.agg #[.slice A X.length cap], .int .i64 q] w fun e w' => e = .returned (.agg #[.int .i64 (valL X q).1, .int .i64 (valL X q).2.1, .string (valL X q).2.2]) ∧ Below w.heap.size w w' := by
  obtain ⟨lb, hlb⟩ : ∃ x, w.heap.size = x := ⟨_, rfl⟩
  obtain ⟨rb, hrb⟩ : ∃ x, lb + 1 = x := ⟨_, rfl⟩
  obtain ⟨w2, hw2⟩ : ∃ x, (w.alloc (.cells #[.slice A X.length cap] 84)).alloc (.cells #[.int .i64 0, .int .i64 0, .string ⟨#[]⟩] 88) = x := ⟨_, rfl⟩
  obtain ⟨k1, k2, k3⟩ := bkk2 w _ _ _ _ hlb hrb hw2
  have HB2 := Lib.hid k3
  have HK1 := Lib.hid k1
  have HK2 := Lib.hid k2
  have HRW : Hid (w.heap.size ≤ rb) := Lib.hid (by omega)
  have HS2 := Lib.hid (sl_bel hs k3)
  have HE2 := Lib.hid (And.intro hlb (And.intro hrb hw2))
  clear hs hlb hrb hw2 k1 k2 k3
  go_enter Tryz.func60, Tryz.ntmps60
  go_upto_region 1 with fail
  rw [HE2.out.1, HE2.out.2.1, HE2.out.2.2]
  clear HE2
  rcases hq with rfl | ⟨j, rfl, hj⟩
  · have HV : Hid (valL X (-1) = (0, 0, ⟨#[]⟩)) := Lib.hid (valL_neg (by decide))
    have R0 : w2.cell? ⟨rb, 0, none⟩ = some (.int .i64 0) := HK2.out.cell 0
    have R1 : w2.cell? ⟨rb, 1, none⟩ = some (.int .i64 0) := HK2.out.cell 1
    have R2 : w2.cell? ⟨rb, 2, none⟩ = some (.string ⟨#[]⟩) := HK2.out.cell 2
    have S0 : w2.frozen? ⟨rb, 0, none⟩ = false := HK2.out.frozen 0
    have S1 : w2.frozen? ⟨rb, 1, none⟩ = false := HK2.out.frozen 1
    have S2 : w2.frozen? ⟨rb, 2, none⟩ = false := HK2.out.frozen 2
    obtain ⟨wz, hwz⟩ : ∃ z, ((w2.setCell ⟨rb, 0, none⟩ (.int .i64 0)).setCell ⟨rb, 1, none⟩ (.int .i64 0)).setCell ⟨rb, 2, none⟩ (.string ⟨#[]⟩) = z := ⟨_, rfl⟩
    have hz := ((HK2.out.set_ 0 (.int .i64 0)).set_ 1 (.int .i64 0)).set_ 2 (.string ⟨#[]⟩)
    have HFIN : Hid (Below w.heap.size w wz) := Lib.hid (by rw [← hwz]; exact ((HB2.out.setCell (p := ⟨rb, 0, none⟩) HRW.out _).setCell (p := ⟨rb, 1, none⟩) HRW.out _).setCell (p := ⟨rb, 2, none⟩) HRW.out _)
    rw [hwz] at hz
    have z0 : wz.cell? ⟨rb, 0, none⟩ = some (.int .i64 0) := hz.cell 0
    have z1 : wz.cell? ⟨rb, 1, none⟩ = some (.int .i64 0) := hz.cell 1
    have z2 : wz.cell? ⟨rb, 2, none⟩ = some (.string ⟨#[]⟩) := hz.cell 2
    clear hz
    go_wp2
    exact bodyPost_ret (v := .agg #[.int .i64 0, .int .i64 0, .string ⟨#[]⟩]) (by simp [results, Tryz.results60, go_sem, z0, z1, z2]) rfl ⟨by rw [HV.out], HFIN.out⟩
  · obtain ⟨x, hx⟩ : ∃ x, X[j]? = some x := ⟨_, List.getElem?_eq_getElem hj⟩
    have HV : Hid (valL X (j : Int) = (x.1, x.2.nu, x.2.tx)) := Lib.hid (valL_at hx)
    obtain ⟨b, off, rfl, hbl, hat⟩ := HS2.out (by intro h; simp [h] at hj)
    obtain ⟨G0, G1, G2, G3, G4, G5, G6, G7, G8⟩ := kcells (hat j x hx)
    have L0 : w2.cell? ⟨lb, 0, none⟩ = some (.slice (some ⟨b, off, none⟩) X.length cap) := HK1.out.cell 0
    have hj2 : (j : Int) < (X.length : Int) := by omega
    have hj0 : ¬ ((j : Int) < 0) := by omega
    obtain ⟨kb, hkb⟩ : ∃ z, w2.heap.size = z := ⟨_, rfl⟩
    obtain ⟨w4, hw4⟩ : ∃ z, w2.alloc (.cells #[.int .i64 x.1, .int .u32 x.2.id, .int .u32 x.2.pe, .int .i64 x.2.ki, .int .i64 x.2.fr, .int .i64 x.2.to, .string x.2.co, .int .i64 x.2.nu, .string x.2.tx] 67) = z := ⟨_, rfl⟩
    have HK4 : Hid (Bk kb 67 #[.int .i64 x.1, .int .u32 x.2.id, .int .u32 x.2.pe, .int .i64 x.2.ki, .int .i64 x.2.fr, .int .i64 x.2.to, .string x.2.co, .int .i64 x.2.nu, .string x.2.tx] w4) := Lib.hid (by rw [← hw4, ← hkb]; exact Bk.new _ _ _)
    have HB4 : Hid (Below w2.heap.size w2 w4) := Lib.hid (by rw [← hw4]; exact bAlloc _ _)
    have HR4 : Hid (Bk rb 88 #[.int .i64 0, .int .i64 0, .string ⟨#[]⟩] w4) := Lib.hid ((HB4.out.block rb HK2.out.lt).trans HK2.out)
    have HE4 := Lib.hid (And.intro hkb hw4)
    clear hat hx hkb hw4
    go_upto_region 4 with fail
    rw [HE4.out.1, HE4.out.2]
    clear G0 G1 G2 G3 G4 G5 G6 G7 G8 HE4 L0
    have E0 : w4.cell? ⟨kb, 0, none⟩ = some (.int .i64 x.1) := HK4.out.cell 0
    have E7 : w4.cell? ⟨kb, 7, none⟩ = some (.int .i64 x.2.nu) := HK4.out.cell 7
    have E8 : w4.cell? ⟨kb, 8, none⟩ = some (.string x.2.tx) := HK4.out.cell 8
    have R0 : w4.cell? ⟨rb, 0, none⟩ = some (.int .i64 0) := HR4.out.cell 0
    have R1 : w4.cell? ⟨rb, 1, none⟩ = some (.int .i64 0) := HR4.out.cell 1
    have R2 : w4.cell? ⟨rb, 2, none⟩ = some (.string ⟨#[]⟩) := HR4.out.cell 2
    have S0 : w4.frozen? ⟨rb, 0, none⟩ = false := HR4.out.frozen 0
    have S1 : w4.frozen? ⟨rb, 1, none⟩ = false := HR4.out.frozen 1
    have S2 : w4.frozen? ⟨rb, 2, none⟩ = false := HR4.out.frozen 2
    obtain ⟨wz, hwz⟩ : ∃ z, ((w4.setCell ⟨rb, 0, none⟩ (.int .i64 x.1)).setCell ⟨rb, 1, none⟩ (.int .i64 x.2.nu)).setCell ⟨rb, 2, none⟩ (.string x.2.tx) = z := ⟨_, rfl⟩
    have hz := ((HR4.out.set_ 0 (.int .i64 x.1)).set_ 1 (.int .i64 x.2.nu)).set_ 2 (.string x.2.tx)
    have HFIN : Hid (Below w.heap.size w wz) := Lib.hid (by rw [← hwz]; exact (((bTrans HB2.out HB4.out).setCell (p := ⟨rb, 0, none⟩) HRW.out _).setCell (p := ⟨rb, 1, none⟩) HRW.out _).setCell (p := ⟨rb, 2, none⟩) HRW.out _)
    rw [hwz] at hz
    have z0 : wz.cell? ⟨rb, 0, none⟩ = some (.int .i64 x.1) := hz.cell 0
    have z1 : wz.cell? ⟨rb, 1, none⟩ = some (.int .i64 x.2.nu) := hz.cell 1
    have z2 : wz.cell? ⟨rb, 2, none⟩ = some (.string x.2.tx) := hz.cell 2
    clear hz
    go_wp2
    exact bodyPost_ret (v := .agg #[.int .i64 x.1, .int .i64 x.2.nu, .string x.2.tx]) (by simp [results, Tryz.results60, go_sem, z0, z1, z2]) rfl ⟨by rw [HV.out], HFIN.out⟩
end Go.Proofs.YtmngghglcgmkeaaGreatDoor

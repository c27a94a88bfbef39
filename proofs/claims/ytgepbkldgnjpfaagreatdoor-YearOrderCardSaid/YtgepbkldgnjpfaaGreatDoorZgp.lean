/- Out of: Yh0 Yi0. -/
import Derived.Test.YtgepbkldgnjpfaaGreatDoorZgm
import Derived.Test.YtgepbkldgnjpfaaGreatDoorZgo
import Derived.DeepKeys4
import Derived.WideKeyEntry
/- year: name, items, check (gen/mkyh0.py). -/
namespace Go.Proofs.YtgepbkldgnjpfaaGreatDoor
open Go.RowKit Go.Sort Go.BigFrame Go.Maps

theorem yr_name (s : ByteArray) (w : World) (hs : s.size ≤ 9223372036854775807) (hT : Tb w) : Calls Tryz.prog 93 #[.string s] w fun e w' => e = .returned (.bool (nmB s)) ∧ Below w.heap.size w w' := by
  have H1 := Lib.hid (fun W => fc_CheckN s W hs)
  have HQ : Hid (decide (chkN s = 0) = nmB s) := Lib.hid (chkN_eq s)
  unfold bkF valF at H1
  go_enter Tryz.func93, Tryz.ntmps93
  have HT := Lib.hid hT
  clear hT hs
  go_wp2_with fail
  refine (H1.out _).mono ?_
  rintro e w1 ⟨rfl, hB⟩
  have HB := Lib.hid hB
  clear hB
  go_wp2_with fail
  go_ret
  exact ⟨by rw [← HQ.out]; rfl, HB.out⟩
/-- What is wrong with items, from a least amount on. -/
def itmGo (le : Int) : List It → Int
  | [] => 0
  | x :: r => if nmB x.1 = false then 12 else if x.2 < le then 2 else if fitB x.2 = false then 2 else itmGo le r
def itmE (le : Int) (l : List It) : Int := if 64 < l.length then 5 else itmGo le l
set_option maxHeartbeats 2000000 in
theorem yr_items (l : List It) (A : Option Addr) (cap : Nat) (le : Int) (w : World) (hn : l.length ≤ 1000000) (hsz : ∀ x ∈ l, x.1.size ≤ 9223372036854775807) (hT : Tb w) (hs : Sl encI 2 w w.heap.size A l) :
    Calls Tryz.prog 55 #[.slice A l.length cap, .int .i64 le] w fun e w' => e = .returned (.int .i64 (itmE le l)) ∧ Below w.heap.size w w' := by
  by_cases h64 : 64 < l.length
  · have HB : Hid (itmE le l = 5) := Lib.hid (if_pos h64)
    go_enter Tryz.func55, Tryz.ntmps55
    go_wp2
    go_ret
    rw [HB.out]
    exact ⟨rfl, Below.refl _ _⟩
  obtain ⟨R, hR⟩ : ∃ R, itmE le l = R := ⟨_, rfl⟩
  have HR : Hid (itmGo le l = R) := Lib.hid (by rw [← hR]; exact (if_neg h64).symm)
  rw [hR]
  have HS := Lib.hid hs
  have HT := Lib.hid hT
  have HSZ := Lib.hid hsz
  have hl64 : l.length ≤ 64 := by omega
  clear hR hs hT hsz h64
  go_enter Tryz.func55, Tryz.ntmps55
  go_wp2
  go_loopw [12] (fun iv wr => ∃ (n : Nat), n ≤ l.length ∧ iv = .int .i64 n ∧ Hid (itmGo le (l.drop n) = R) ∧ Hid (Below w.heap.size w wr)) (fun iv _ => l.length - (intOf iv).toNat)
  case atStart => exact ⟨0, Nat.zero_le _, rfl, HR, Lib.hid (Below.refl _ _)⟩
  case round =>
    obtain ⟨n, hn1, rfl, HA, HB⟩ := hrel
    by_cases hlt : n < l.length
    · obtain ⟨b, off, rfl, hB, hc⟩ := HS.out (by intro h; simp [h] at hlt)
      obtain ⟨⟨co, x⟩, hx⟩ : ∃ x, l[n]? = some x := ⟨_, List.getElem?_eq_getElem hlt⟩
      have C0 : wr.cell? ⟨b, off + n * 2, none⟩ = some (.string co) := (HB.out.cell (p := ⟨b, off + n * 2, none⟩) hB).trans (by simpa using hc n _ hx 0 _ rfl)
      have C1 : wr.cell? ⟨b, off + n * 2 + 1, none⟩ = some (.int .i64 x) := (HB.out.cell (p := ⟨b, off + n * 2 + 1, none⟩) hB).trans (hc n _ hx 1 _ rfl)
      have hdrop : l.drop n = (co, x) :: l.drop (n + 1) := by
        rw [List.drop_eq_getElem_cons hlt]
        congr 1
        have := List.getElem?_eq_getElem hlt
        rw [hx] at this
        exact (Option.some.inj this).symm
      obtain ⟨nm, hnm⟩ : ∃ y, nmB co = y := ⟨_, rfl⟩
      obtain ⟨fc, hfc⟩ : ∃ y, fitB x = y := ⟨_, rfl⟩
      have HD : Hid (R = if nm = false then 12 else if x < le then 2 else if fc = false then 2 else itmGo le (l.drop (n + 1))) := Lib.hid (by rw [← HA.out, hdrop, ← hnm, ← hfc]; rfl)
      have hco : co.size ≤ 9223372036854775807 := HSZ.out _ (List.mem_of_getElem? hx)
      have HF : Hid (∀ W, Calls Tryz.prog 22 #[.int .i64 x] W fun e w' => e = .returned (.bool fc) ∧ W = w') := Lib.hid fun W => by rw [← hfc]; exact ce_fit x W
      have HN : Hid (∀ W, Tb W → Calls Tryz.prog 93 #[.string co] W fun e w' => e = .returned (.bool nm) ∧ Below W.heap.size W w') := Lib.hid fun W h => by rw [← hnm]; exact yr_name co W hco h
      obtain ⟨fb, hfb⟩ : ∃ y, wr.heap.size = y := ⟨_, rfl⟩
      obtain ⟨wa, hwa⟩ : ∃ y, wr.alloc (.cells #[.string co, .int .i64 x] 65) = y := ⟨_, rfl⟩
      have hb0 : Bk fb 65 #[.string co, .int .i64 x] wa := by rw [← hwa, ← hfb]; exact Bk.new _ _ _
      have HB1 : Hid (Below w.heap.size w wa) := Lib.hid (HB.out.trans (by rw [← hwa]; exact (bAlloc wr _).mono HB.out.size))
      have D0 : wa.cell? ⟨fb, 0, none⟩ = some (.string co) := hb0.cell 0
      have HB0 := Lib.hid hb0
      have HWF := Lib.hid (And.intro hfb hwa)
      clear hc hx hdrop hnm hfc hco hfb hwa hb0 HB HA
      go_upto_region 6 with fail
      rw [HWF.out.1, HWF.out.2]
      clear HWF C0 C1
      go_wp2_with fail
      refine (HN.out _ (HT.out.below HB1.out)).mono ?_
      rintro e w1 ⟨rfl, hb1⟩
      have HB2 := Lib.hid (HB1.out.trans (hb1.mono HB1.out.size))
      have E1 : w1.cell? ⟨fb, 1, none⟩ = some (.int .i64 x) := (bkBel HB0.out hb1).cell 1
      clear hb1 D0 HB0
      cases nm with
      | false =>
        have HE : Hid (R = 12) := Lib.hid (by rw [HD.out, if_pos rfl])
        go_wp2
        go_ret
        rw [HE.out]
        exact ⟨rfl, HB2.out⟩
      | true =>
      by_cases hle : x < le
      · have dl : decide (x < le) = true := decide_eq_true hle
        have HE : Hid (R = 2) := Lib.hid (by rw [HD.out, if_neg (by simp), if_pos hle])
        clear hle
        go_wp2
        go_ret
        rw [HE.out]
        exact ⟨rfl, HB2.out⟩
      have dl : decide (x < le) = false := decide_eq_false hle
      have HD2 : Hid (R = if fc = false then 2 else itmGo le (l.drop (n + 1))) := Lib.hid (by rw [HD.out, if_neg (by simp), if_neg hle])
      clear hle
      go_wp2_with fail
      refine (HF.out _).mono ?_
      rintro e w2 ⟨rfl, rfl⟩
      cases fc with
      | false =>
        have HE : Hid (R = 2) := Lib.hid (by rw [HD2.out, if_pos rfl])
        go_wp2
        go_ret
        rw [HE.out]
        exact ⟨rfl, HB2.out⟩
      | true =>
        have HE : Hid (itmGo le (l.drop (n + 1)) = R) := Lib.hid (by rw [HD2.out, if_neg (by simp)])
        go_wp2
        exact ⟨⟨n + 1, by omega, by go_num, HE, HB2⟩, by simp [intOf]; omega⟩
    · obtain rfl : n = l.length := by omega
      go_wp2
      go_ret
      have h := HA.out
      rw [List.drop_length] at h
      rw [← h]
      exact ⟨rfl, HB.out⟩

/-- A month: what it holds. -/
structure Mon where
  y : Int
  i : Int
  o : Int
  gr : List It
  be : List It
  af : List It
  li : List Lim
  sc : List Sch
  al : Int
  ex : Int
  ba : List (Int × Int)
  od : List Od
/-- Where a month's slices lie. -/
structure MoA where
  gr : Option Addr × Nat
  be : Option Addr × Nat
  af : Option Addr × Nat
  li : Option Addr × Nat
  sc : Option Addr × Nat
  ba : Option Addr × Nat
  od : Option Addr × Nat
def moC (M : Mon) (S : MoA) : Array Value := #[.int .i64 M.y, .int .i64 M.i, .int .i64 M.o, .slice S.gr.1 M.gr.length S.gr.2, .slice S.be.1 M.be.length S.be.2, .slice S.af.1 M.af.length S.af.2, .slice S.li.1 M.li.length S.li.2, .slice S.sc.1 M.sc.length S.sc.2, .int .i64 M.al, .int .i64 M.ex, .slice S.ba.1 M.ba.length S.ba.2, .slice S.od.1 M.od.length S.od.2]
def moV (M : Mon) (S : MoA) : Value := .agg (moC M S)
/-- A month in memory, of texts and lists that may be. -/
structure MoOk (M : Mon) (S : MoA) (w : World) : Prop where
  gr : Sl encI 2 w w.heap.size S.gr.1 M.gr
  be : Sl encI 2 w w.heap.size S.be.1 M.be
  af : Sl encI 2 w w.heap.size S.af.1 M.af
  li : Sl encL 3 w w.heap.size S.li.1 M.li
  sc : Sl encH 4 w w.heap.size S.sc.1 M.sc
  ba : Sl Tx.encBand 2 w w.heap.size S.ba.1 M.ba
  od : Sl encO 6 w w.heap.size S.od.1 M.od
  ln : M.gr.length ≤ 1000000 ∧ M.be.length ≤ 1000000 ∧ M.af.length ≤ 1000000 ∧ M.li.length ≤ 1000000 ∧ M.sc.length ≤ 1000000 ∧ M.ba.length ≤ 1000000 ∧ M.od.length ≤ 1000000
  sz : (∀ x ∈ M.gr, x.1.size ≤ 9223372036854775807) ∧ (∀ x ∈ M.be, x.1.size ≤ 9223372036854775807) ∧ (∀ x ∈ M.af, x.1.size ≤ 9223372036854775807) ∧ (∀ x ∈ M.li, x.1.size ≤ 9223372036854775807) ∧ (∀ x ∈ M.sc, x.1.size ≤ 9223372036854775807) ∧ (∀ x ∈ M.od, x.co.size ≤ 9223372036854775807)
theorem MoOk.below {M : Mon} {S : MoA} {w w' : World} (h : MoOk M S w) (hb : Below w.heap.size w w') : MoOk M S w' := ⟨h.gr.below hb, h.be.below hb, h.af.below hb, h.li.below hb, h.sc.below hb, h.ba.below hb, h.od.below hb, h.ln, h.sz⟩
/-- A state: what it holds. -/
structure Ste where
  y : Int
  i : Int
  o : Int
  be : Ass ByteArray Int
  so : Ass ByteArray S4
  tb : Int
  tt : Int
  od : Ass ByteArray Int
def Ste.none : Ste := ⟨0, 0, 0, [], [], 0, 0, []⟩
/-- Its maps. -/
structure StA where
  be : Value
  so : Value
  od : Value
def StA.none : StA := ⟨.map Option.none, .map Option.none, .map Option.none⟩
def stC (S : Ste) (V : StA) : Array Value := #[.int .i64 S.y, .int .i64 S.i, .int .i64 S.o, V.be, V.so, .int .i64 S.tb, .int .i64 S.tt, V.od]
def stV (S : Ste) (V : StA) : Value := .agg (stC S V)
/-- A state in memory; its maps hold at most n entries each. -/
structure StOk (S : Ste) (V : StA) (n : Nat) (w : World) : Prop where
  be : MpC S.be n V.be w
  so : MpS S.so n V.so w
  od : MpC S.od n V.od w
  bd : (0 ≤ S.y ∧ S.y ≤ 2199) ∧ (0 ≤ S.i ∧ S.i ≤ 400) ∧ 0 ≤ S.o ∧ S.o ≤ 400
theorem StOk.below {S : Ste} {V : StA} {n : Nat} {w w' : World} (h : StOk S V n w) (hb : Below w.heap.size w w') : StOk S V n w' := ⟨h.be.below hb, h.so.below hb, h.od.below hb, h.bd⟩
theorem StOk.mono {S : Ste} {V : StA} {n n' : Nat} {w : World} (h : StOk S V n w) (hn : n ≤ n') : StOk S V n' w := ⟨h.be.mono hn, h.so.mono hn, h.od.mono hn, h.bd⟩
theorem StOk.none {n : Nat} {w : World} : StOk Ste.none StA.none n w := ⟨MapV.nil, MapV.nil, MapV.nil, by decide⟩
/-- Does a month follow a state? -/
def folB (S : Ste) (M : Mon) : Bool := ((S.y == M.y) && (S.o == M.o) && (S.i + 1 == M.i)) || ((S.i == S.o) && (S.y + 1 == M.y) && (M.i == 1))
/-- What is wrong with a month behind a state. -/
def chkM (S : Ste) (M : Mon) : Int :=
  if M.y < 1900 ∨ 2199 < M.y ∨ M.o < 1 ∨ 400 < M.o ∨ M.i < 1 ∨ M.o < M.i then 2
  else if 0 < S.i ∧ folB S M = false then 8
  else if itmE (-1125899906842624) M.gr ≠ 0 then itmE (-1125899906842624) M.gr else itmE 0 M.af
set_option maxHeartbeats 4000000 in
set_option maxRecDepth 100000 in
theorem yr_check (S : Ste) (V : StA) (M : Mon) (A : MoA) (w : World) (hb : (0 ≤ S.y ∧ S.y ≤ 2199) ∧ (0 ≤ S.i ∧ S.i ≤ 400) ∧ 0 ≤ S.o ∧ S.o ≤ 400) (hm : MoOk M A w) (hT : Tb w) :
    Calls Tryz.prog 32 #[stV S V, moV M A] w fun e w' => e = .returned (.int .i64 (chkM S M)) ∧ Below w.heap.size w w' := by
  obtain ⟨R, hR⟩ : ∃ R, chkM S M = R := ⟨_, rfl⟩
  rw [hR]
  obtain ⟨fo, hfo⟩ : ∃ R, folB S M = R := ⟨_, rfl⟩
  obtain ⟨e1, he1⟩ : ∃ R, itmE (-1125899906842624) M.gr = R := ⟨_, rfl⟩
  obtain ⟨e2, he2⟩ : ∃ R, itmE 0 M.af = R := ⟨_, rfl⟩
  have HR : Hid (R = if M.y < 1900 ∨ 2199 < M.y ∨ M.o < 1 ∨ 400 < M.o ∨ M.i < 1 ∨ M.o < M.i then 2 else if 0 < S.i ∧ fo = false then 8 else if e1 ≠ 0 then e1 else e2) := Lib.hid (by rw [← hR, ← hfo, ← he1, ← he2]; rfl)
  have HFO : Hid ((((S.y == M.y) && (S.o == M.o) && (S.i + 1 == M.i)) || ((S.i == S.o) && (S.y + 1 == M.y) && (M.i == 1))) = fo) := Lib.hid hfo
  have HI1 : Hid (∀ W, Below w.heap.size w W → Calls Tryz.prog 55 #[.slice A.gr.1 M.gr.length A.gr.2, .int .i64 (-1125899906842624)] W fun e w' => e = .returned (.int .i64 e1) ∧ Below W.heap.size W w') := Lib.hid fun W hW => by rw [← he1]; exact yr_items M.gr A.gr.1 A.gr.2 _ W hm.ln.1 hm.sz.1 (hT.below hW) (hm.gr.below hW)
  have HI2 : Hid (∀ W, Below w.heap.size w W → Calls Tryz.prog 55 #[.slice A.af.1 M.af.length A.af.2, .int .i64 0] W fun e w' => e = .returned (.int .i64 e2) ∧ Below W.heap.size W w') := Lib.hid fun W hW => by rw [← he2]; exact yr_items M.af A.af.1 A.af.2 _ W hm.ln.2.2.1 hm.sz.2.2.1 (hT.below hW) (hm.af.below hW)
  clear hR hfo he1 he2 hm hT
  obtain ⟨sy, si, so, sbe, sso, stb, stt, sod⟩ := S
  obtain ⟨my, mi, mo, mgr, mbe, maf, mli, msc, mal, mex, mba, mod_⟩ := M
  obtain ⟨vbe, vso, vod⟩ := V
  obtain ⟨⟨a1, c1⟩, ⟨a2, c2⟩, ⟨a3, c3⟩, ⟨a4, c4⟩, ⟨a5, c5⟩, ⟨a6, c6⟩, ⟨a7, c7⟩⟩ := A
  dsimp only [stV, moV, stC, moC] at *
  obtain ⟨sb, hsb⟩ : ∃ x, w.heap.size = x := ⟨_, rfl⟩
  obtain ⟨mb, hmb⟩ : ∃ x, sb + 1 = x := ⟨_, rfl⟩
  obtain ⟨wa, hwa⟩ : ∃ x, (w.alloc (.cells #[.int .i64 sy, .int .i64 si, .int .i64 so, vbe, vso, .int .i64 stb, .int .i64 stt, vod] 33)).alloc (.cells #[.int .i64 my, .int .i64 mi, .int .i64 mo, .slice a1 mgr.length c1, .slice a2 mbe.length c2, .slice a3 maf.length c3, .slice a4 mli.length c4, .slice a5 msc.length c5, .int .i64 mal, .int .i64 mex, .slice a6 mba.length c6, .slice a7 mod_.length c7] 54) = x := ⟨_, rfl⟩
  have k0 : Bk sb 33 #[.int .i64 sy, .int .i64 si, .int .i64 so, vbe, vso, .int .i64 stb, .int .i64 stt, vod] wa := by rw [← hwa, ← hsb]; exact (Bk.new _ _ _).grows (Grows.of_alloc _ _)
  have k1 : Bk mb 54 #[.int .i64 my, .int .i64 mi, .int .i64 mo, .slice a1 mgr.length c1, .slice a2 mbe.length c2, .slice a3 maf.length c3, .slice a4 mli.length c4, .slice a5 msc.length c5, .int .i64 mal, .int .i64 mex, .slice a6 mba.length c6, .slice a7 mod_.length c7] wa := by
    rw [← hwa, ← hmb, ← hsb, show w.heap.size + 1 = (w.alloc (.cells #[.int .i64 sy, .int .i64 si, .int .i64 so, vbe, vso, .int .i64 stb, .int .i64 stt, vod] 33)).heap.size by simp]
    exact Bk.new _ _ _
  have HBA : Hid (Below w.heap.size w wa) := Lib.hid (by rw [← hwa]; exact ((Grows.of_alloc _ _).alloc _).below)
  have S0 : wa.cell? ⟨sb, 0, none⟩ = some (.int .i64 sy) := k0.cell 0
  have S1 : wa.cell? ⟨sb, 1, none⟩ = some (.int .i64 si) := k0.cell 1
  have S2 : wa.cell? ⟨sb, 2, none⟩ = some (.int .i64 so) := k0.cell 2
  have M0 : wa.cell? ⟨mb, 0, none⟩ = some (.int .i64 my) := k1.cell 0
  have M1 : wa.cell? ⟨mb, 1, none⟩ = some (.int .i64 mi) := k1.cell 1
  have M2 : wa.cell? ⟨mb, 2, none⟩ = some (.int .i64 mo) := k1.cell 2
  have M3 : wa.cell? ⟨mb, 3, none⟩ = some (.slice a1 mgr.length c1) := k1.cell 3
  have M5 : wa.cell? ⟨mb, 5, none⟩ = some (.slice a3 maf.length c3) := k1.cell 5
  have HK1 := Lib.hid k1
  have HWF := Lib.hid (And.intro hsb (And.intro hmb hwa))
  have v1 : IntKind.i64.wrap (si + 1) = si + 1 := IntWalk.i64_in _ (by omega)
  have v2 : IntKind.i64.wrap (sy + 1) = sy + 1 := IntWalk.i64_in _ (by omega)
  obtain ⟨s1, hs1⟩ : ∃ x, si + 1 = x := ⟨_, rfl⟩
  obtain ⟨y1, hy1⟩ : ∃ x, sy + 1 = x := ⟨_, rfl⟩
  rw [hs1, hy1] at HFO
  have u1 : IntKind.i64.wrap (si + 1) = s1 := by rw [v1, hs1]
  have u2 : IntKind.i64.wrap (sy + 1) = y1 := by rw [v2, hy1]
  clear v1 v2 hs1 hy1 k0 k1 hsb hmb hwa hb
  go_enter Tryz.func32, Tryz.ntmps32
  go_upto_region 1 with fail
  simp only [HWF.out.1, HWF.out.2.1, HWF.out.2.2]
  clear HWF
  go_cut [5] from 7 (fun fv wx => fv = .bool fo ∧ wa = wx)
  case first =>
    cases hb1 : (sy == my) with
    | true =>
      cases hb2 : (so == mo) with
      | true =>
        cases hb3 : (s1 == mi) with
        | true =>
          have HE : Hid (fo = true) := Lib.hid (by rw [← HFO.out]; simp [hb1, hb2, hb3])
          go_wp2
          go_meet
          exact ⟨by rw [HE.out], rfl⟩
        | false =>
          cases hb4 : (si == so) with
          | true =>
            cases hb5 : (y1 == my) with
            | true =>
              cases hb6 : (mi == 1) with
              | true =>
                have HE : Hid (fo = true) := Lib.hid (by rw [← HFO.out]; simp [hb1, hb2, hb3, hb4, hb5, hb6])
                go_wp2
                go_meet
                exact ⟨by rw [HE.out], rfl⟩
              | false =>
                have HE : Hid (fo = false) := Lib.hid (by rw [← HFO.out]; simp [hb1, hb2, hb3, hb4, hb5, hb6])
                go_wp2
                go_meet
                exact ⟨by rw [HE.out], rfl⟩
            | false =>
              have HE : Hid (fo = false) := Lib.hid (by rw [← HFO.out]; simp [hb1, hb2, hb3, hb4, hb5])
              go_wp2
              go_meet
              exact ⟨by rw [HE.out], rfl⟩
          | false =>
            have HE : Hid (fo = false) := Lib.hid (by rw [← HFO.out]; simp [hb1, hb2, hb3, hb4])
            go_wp2
            go_meet
            exact ⟨by rw [HE.out], rfl⟩
      | false =>
        cases hb4 : (si == so) with
        | true =>
          cases hb5 : (y1 == my) with
          | true =>
            cases hb6 : (mi == 1) with
            | true =>
              have HE : Hid (fo = true) := Lib.hid (by rw [← HFO.out]; simp [hb1, hb2, hb4, hb5, hb6])
              go_wp2
              go_meet
              exact ⟨by rw [HE.out], rfl⟩
            | false =>
              have HE : Hid (fo = false) := Lib.hid (by rw [← HFO.out]; simp [hb1, hb2, hb4, hb5, hb6])
              go_wp2
              go_meet
              exact ⟨by rw [HE.out], rfl⟩
          | false =>
            have HE : Hid (fo = false) := Lib.hid (by rw [← HFO.out]; simp [hb1, hb2, hb4, hb5])
            go_wp2
            go_meet
            exact ⟨by rw [HE.out], rfl⟩
        | false =>
          have HE : Hid (fo = false) := Lib.hid (by rw [← HFO.out]; simp [hb1, hb2, hb4])
          go_wp2
          go_meet
          exact ⟨by rw [HE.out], rfl⟩
    | false =>
      cases hb4 : (si == so) with
      | true =>
        cases hb5 : (y1 == my) with
        | true =>
          cases hb6 : (mi == 1) with
          | true =>
            have HE : Hid (fo = true) := Lib.hid (by rw [← HFO.out]; simp [hb1, hb4, hb5, hb6])
            go_wp2
            go_meet
            exact ⟨by rw [HE.out], rfl⟩
          | false =>
            have HE : Hid (fo = false) := Lib.hid (by rw [← HFO.out]; simp [hb1, hb4, hb5, hb6])
            go_wp2
            go_meet
            exact ⟨by rw [HE.out], rfl⟩
        | false =>
          have HE : Hid (fo = false) := Lib.hid (by rw [← HFO.out]; simp [hb1, hb4, hb5])
          go_wp2
          go_meet
          exact ⟨by rw [HE.out], rfl⟩
      | false =>
        have HE : Hid (fo = false) := Lib.hid (by rw [← HFO.out]; simp [hb1, hb4])
        go_wp2
        go_meet
        exact ⟨by rw [HE.out], rfl⟩
  case rest =>
  obtain ⟨rfl, rfl⟩ := hcut
  clear u1 u2 HFO
  by_cases h1 : my < 1900
  · have d1 : decide (my < (1900 : Int)) = true := decide_eq_true h1
    have HE : Hid (R = 2) := Lib.hid (by rw [HR.out, if_pos (by omega)])
    clear h1
    go_wp2
    go_ret
    rw [HE.out]
    exact ⟨rfl, HBA.out⟩
  have d1 : decide (my < (1900 : Int)) = false := decide_eq_false h1
  by_cases h2 : 2199 < my
  · have d2 : decide ((2199 : Int) < my) = true := decide_eq_true h2
    have HE : Hid (R = 2) := Lib.hid (by rw [HR.out, if_pos (by omega)])
    clear h1 h2
    go_wp2
    go_ret
    rw [HE.out]
    exact ⟨rfl, HBA.out⟩
  have d2 : decide ((2199 : Int) < my) = false := decide_eq_false h2
  by_cases h3 : mo < 1
  · have d3 : decide (mo < (1 : Int)) = true := decide_eq_true h3
    have HE : Hid (R = 2) := Lib.hid (by rw [HR.out, if_pos (by omega)])
    clear h1 h2 h3
    go_wp2
    go_ret
    rw [HE.out]
    exact ⟨rfl, HBA.out⟩
  have d3 : decide (mo < (1 : Int)) = false := decide_eq_false h3
  by_cases h4 : 400 < mo
  · have d4 : decide ((400 : Int) < mo) = true := decide_eq_true h4
    have HE : Hid (R = 2) := Lib.hid (by rw [HR.out, if_pos (by omega)])
    clear h1 h2 h3 h4
    go_wp2
    go_ret
    rw [HE.out]
    exact ⟨rfl, HBA.out⟩
  have d4 : decide ((400 : Int) < mo) = false := decide_eq_false h4
  by_cases h5 : mi < 1
  · have d5 : decide (mi < (1 : Int)) = true := decide_eq_true h5
    have HE : Hid (R = 2) := Lib.hid (by rw [HR.out, if_pos (by omega)])
    clear h1 h2 h3 h4 h5
    go_wp2
    go_ret
    rw [HE.out]
    exact ⟨rfl, HBA.out⟩
  have d5 : decide (mi < (1 : Int)) = false := decide_eq_false h5
  by_cases h6 : mo < mi
  · have d6 : decide (mo < mi) = true := decide_eq_true h6
    have HE : Hid (R = 2) := Lib.hid (by rw [HR.out, if_pos (by omega)])
    clear h1 h2 h3 h4 h5 h6
    go_wp2
    go_ret
    rw [HE.out]
    exact ⟨rfl, HBA.out⟩
  have d6 : decide (mo < mi) = false := decide_eq_false h6
  have HR2 : Hid (R = if 0 < si ∧ fo = false then 8 else if e1 ≠ 0 then e1 else e2) := Lib.hid (by rw [HR.out, if_neg (by omega)])
  clear h1 h2 h3 h4 h5 h6 HR
  have HCH : Hid ((0 < si ∧ fo = false → R = 8) ∧ (¬ (0 < si ∧ fo = false) → R = if e1 ≠ 0 then e1 else e2)) := Lib.hid ⟨fun h => by rw [HR2.out, if_pos h], fun h => by rw [HR2.out, if_neg h]⟩
  by_cases h7 : 0 < si ∧ fo = false
  · obtain ⟨h7, rfl⟩ := h7
    have d7 : decide ((0 : Int) < si) = true := decide_eq_true h7
    have HE : Hid (R = 8) := Lib.hid (HCH.out.1 ⟨h7, rfl⟩)
    clear h7
    go_wp2
    go_ret
    rw [HE.out]
    exact ⟨rfl, HBA.out⟩
  have HR3 : Hid (R = if e1 ≠ 0 then e1 else e2) := Lib.hid (HCH.out.2 h7)
  by_cases h8 : 0 < si
  · have d8 : decide ((0 : Int) < si) = true := decide_eq_true h8
    obtain rfl : fo = true := by cases fo; exact absurd ⟨h8, rfl⟩ h7; rfl
    clear h7 h8 HR2 HCH
    go_wp2_with fail
    refine (HI1.out _ HBA.out).mono ?_
    rintro e w1 ⟨rfl, hb1⟩
    have HB1 := Lib.hid (bTrans HBA.out hb1)
    have N5 : w1.cell? ⟨mb, 5, none⟩ = some (.slice a3 maf.length c3) := (bkBel HK1.out hb1).cell 5
    clear hb1 M3 M5
    by_cases h9 : e1 = 0
    case neg =>
      have nz : (e1 != 0) = true := by simpa using h9
      have HE : Hid (R = e1) := Lib.hid (by rw [HR3.out, if_pos h9])
      clear h9
      go_wp2
      go_ret
      rw [HE.out]
      exact ⟨rfl, HB1.out⟩
    subst h9
    have HE : Hid (R = e2) := Lib.hid (by rw [HR3.out, if_neg (by simp)])
    go_wp2_with fail
    refine (HI2.out _ HB1.out).mono ?_
    rintro e w2 ⟨rfl, hb2⟩
    have HB2 := Lib.hid (bTrans HB1.out hb2)
    clear hb2 N5
    go_wp2
    go_ret
    rw [HE.out]
    exact ⟨rfl, HB2.out⟩
  · have d8 : decide ((0 : Int) < si) = false := decide_eq_false h8
    clear h7 h8 HR2 HCH
    go_wp2_with fail
    refine (HI1.out _ HBA.out).mono ?_
    rintro e w1 ⟨rfl, hb1⟩
    have HB1 := Lib.hid (bTrans HBA.out hb1)
    have N5 : w1.cell? ⟨mb, 5, none⟩ = some (.slice a3 maf.length c3) := (bkBel HK1.out hb1).cell 5
    clear hb1 M3 M5
    by_cases h9 : e1 = 0
    case neg =>
      have nz : (e1 != 0) = true := by simpa using h9
      have HE : Hid (R = e1) := Lib.hid (by rw [HR3.out, if_pos h9])
      clear h9
      go_wp2
      go_ret
      rw [HE.out]
      exact ⟨rfl, HB1.out⟩
    subst h9
    have HE : Hid (R = e2) := Lib.hid (by rw [HR3.out, if_neg (by simp)])
    go_wp2_with fail
    refine (HI2.out _ HB1.out).mono ?_
    rintro e w2 ⟨rfl, hb2⟩
    have HB2 := Lib.hid (bTrans HB1.out hb2)
    clear hb2 N5
    go_wp2
    go_ret
    rw [HE.out]
    exact ⟨rfl, HB2.out⟩
end Go.Proofs.YtgepbkldgnjpfaaGreatDoor

/- The lines of a step: a map by part and code. -/
namespace Go.Proofs.YtgepbkldgnjpfaaGreatDoor
open Go.RowKit Go.Sort Go.Maps Go.WideMaps

theorem laidTY : laidOutB Tryz.prog = true := by kernel_rfl
theorem rowKey : (123 : TypeId) < Tryz.prog.types.size := of_decide_eq_true (by kernel_rfl)
theorem wideKey : (match Tryz.prog.underlying 123 with | some (.array _ _) | some (.struct _) => true | _ => false) = true := by kernel_rfl
theorem keyTyKey : Tryz.prog.keyTypeAt 4 123 = true := by kernel_rfl
set_option maxRecDepth 100000 in
theorem lawKey : KeyLaw Tryz.prog 123 := deep_law_laid laidTY (m := 4) (by omega) rowKey keyTyKey wideKey
theorem keyedKey : Keyed Tryz.prog 123 := Keyed.of_law lawKey
theorem cellsKey : Tryz.prog.cellsOf 123 = 2 := by kernel_rfl
theorem cellsIY : Tryz.prog.cellsOf 3 = 1 := by kernel_rfl
theorem cellsSY : Tryz.prog.cellsOf 9 = 1 := by kernel_rfl
/-- A part, and a code: a line's key. -/
abbrev Kp := {x : Int × ByteArray // (0 ≤ x.1 ∧ x.1 ≤ 6) ∧ x.2.size ≤ 32}
def klP (x : Kp) : Lit := .string (keyBytes [.int .i64 x.1.1, .string x.1.2.data.toList])
def keyV (x : Kp) : Value := .agg #[.int .i64 x.1.1, .string x.1.2]
theorem keyTyKey2 : Tryz.prog.keyType 123 = true := by kernel_rfl
theorem sizeTY : ∃ m, Tryz.prog.types.size + 1 = m + 2 := by
  have h : (3 : Nat) ≤ Tryz.prog.types.size := of_decide_eq_true (by kernel_rfl)
  exact ⟨Tryz.prog.types.size + 1 - 2, by omega⟩
theorem litI (m : Nat) (n : Int) (h : -9223372036854775808 ≤ n ∧ n ≤ 9223372036854775807) : Tryz.prog.keyLits (m + 1) 3 [.int .i64 n] = some [.int .i64 n] := by
  unfold Program.keyLits
  simp only [Tryz.underlying3]
  rw [if_pos ⟨trivial, by
    have e1 : IntKind.i64.min = -9223372036854775808 := rfl
    have e2 : IntKind.i64.max = 9223372036854775807 := rfl
    simp [Lit.wf, e1, e2]; omega⟩]
theorem litSY (m : Nat) (s : ByteArray) (h : s.size ≤ 1000000) : Tryz.prog.keyLits (m + 1) 9 [.string s] = some [.string s.data.toList] := by
  unfold Program.keyLits
  simp only [Tryz.underlying9]
  rw [if_pos (by unfold maxLen; omega)]
theorem keyOfP (x : Kp) : keyOf Tryz.prog 123 (keyV x) = some (klP x) := by
  obtain ⟨⟨p, s⟩, ⟨h1, h2⟩, h3⟩ := x
  obtain ⟨m, hm⟩ := sizeTY
  dsimp only at h1 h2 h3
  unfold keyOf keyV
  simp only [Tryz.underlying123]
  rw [if_pos (by simp [keyTyKey2, Value.formed, Tryz.underlying123, cellsKey]), hm]
  show (Tryz.prog.keyLits (m + 2) 123 [.int .i64 p, .string s]).map _ = _
  have hl : Tryz.prog.keyLits (m + 2) 123 [.int .i64 p, .string s] = some [.int .i64 p, .string s.data.toList] := by
    unfold Program.keyLits
    simp only [Tryz.underlying123]
    rw [if_pos ⟨by rw [cellsKey]; rfl, by simp⟩]
    simp only [List.mapM_cons, List.mapM_nil, cellsIY, cellsSY, List.drop_zero, List.drop_succ_cons, List.take_succ_cons, List.take_zero]
    rw [litI m p (by omega), litSY m s (by omega)]
    rfl
  rw [hl]
  rfl
theorem klP_W : KeyW klP where
  inj a b h := by
    have h1 := keyOfP a
    have h2 := keyOfP b
    rw [← h] at h2
    have h3 := keyedKey.inj h1 h2
    obtain ⟨⟨p, s⟩, ha⟩ := a
    obtain ⟨⟨q, t⟩, hb⟩ := b
    simp only [keyV, Value.agg.injEq, Array.mk.injEq, List.cons.injEq, Value.int.injEq, Value.string.injEq, true_and, and_true] at h3
    exact Subtype.ext (Prod.ext h3.1 h3.2)
  isKey a := by unfold klP; trivial
abbrev OmP (m : Ass Kp Int) (n b : Nat) (w : World) : Prop := w.ownsMap Tryz.prog 123 heldV b n (dA klP aggC m)
def gP (m : Ass Kp Int) (k : Kp) : Int := (getA m k).getD 0
theorem lkP (m : Ass Kp Int) (k : Kp) : lkA aggC (.int .i64 0) m k = .int .i64 (gP m k) := by
  unfold lkA gP
  cases getA m k <;> rfl
set_option maxRecDepth 100000 in
/-- Behind the entry, too, a look-up gives what it gave. -/
theorem entryLook (m : Ass Kp Int) (n b : Nat) (w : World) (h : OmP m n b w) (hn : n < maxLen) (k : Kp) {v : Value} {w1 : World} (he : (Instr.mapEntry 93 (.map (some b)) (keyV k)).run Tryz.prog w = .ok v w1) :
    (Instr.lookup 93 (.map (some b)) (keyV k) false).run Tryz.prog w1 = .ok (.int .i64 (gP m k)) w1 := by
  have h0 := h
  obtain ⟨es, clock, hb, F, hs, hD⟩ := h
  have hkey := keyOfP k
  have ht := Tryz.underlying93
  have K := lawKey
  rcases K.find w hkey es.toList F.keys with ⟨h1, h2⟩ | ⟨j, e0, h1, h2, h3⟩
  · have r1 : (Instr.mapEntry 93 (.map (some b)) (keyV k)).run Tryz.prog w = .ok (.tuple #[.int .i64 0, goInt clock]) (ChangeMaps.setBlock w b (.map (es.push ⟨keyV k, .int .i64 0, clock⟩) (clock + 1))) := by
      simp [Instr.mapEntry, run_underlying ht, MapKept.run_getObj_map hb, K.check w false hkey, h1, MapKept.run_setObj_map _ hb, Result.andThen, ChangeMaps.setBlock]
    have r2 : (Instr.mapUpdate 93 (.map (some b)) (keyV k) (.int .i64 0)).run Tryz.prog w = .ok () (ChangeMaps.setBlock w b (.map (es.push ⟨keyV k, .int .i64 0, clock⟩) (clock + 1))) := by
      simp [Instr.mapUpdate, run_underlying ht, MapKept.run_getObj_map hb, K.check w false hkey, h1, MapKept.run_setObj_map _ hb, Result.andThen, ChangeMaps.setBlock]
    obtain ⟨w3, hrun3, hown3, _⟩ := h0.update keyedKey ht hn hkey (show heldV (.int .i64 0) = some (.held (.int .i64 0), []) from rfl)
    have e1 : w1 = ChangeMaps.setBlock w b (.map (es.push ⟨keyV k, .int .i64 0, clock⟩) (clock + 1)) := by
      rw [r1] at he
      injection he with _ he
      exact he.symm
    have e2 : w3 = ChangeMaps.setBlock w b (.map (es.push ⟨keyV k, .int .i64 0, clock⟩) (clock + 1)) := by
      rw [r2] at hrun3
      injection hrun3 with _ he
      exact he.symm
    rw [← e2] at e1
    subst e1
    have hl := MapV.look (m := (k, 0) :: m) (v := .map (some b)) (Or.inr ⟨b, rfl, hown3⟩) keyedKey klP_W ht (zeroCe w1) hkey
    rw [lkP] at hl
    have hz : gP m k = 0 := by
      have ho := MapV.look (v := .map (some b)) (Or.inr ⟨b, rfl, h0⟩) keyedKey klP_W ht (zeroCe w) hkey
      rw [lkP] at ho
      have hr : (Instr.lookup 93 (.map (some b)) (keyV k) false).run Tryz.prog w = .ok (.int .i64 0) w := by
        simp [Instr.lookup, run_underlying ht, MapKept.run_getObj_map hb, K.check w es.isEmpty hkey, h1, zeroCe w, Result.andThen]
      rw [hr] at ho
      injection ho with ho _
      injection ho with _ ho
      exact ho.symm
    rw [hl, hz]
    unfold gP
    rw [getA_cons, if_pos rfl]
    rfl
  · have hj : es[j]? = some e0 := by simpa using h2
    have hsame : es.modify j (fun e => { e with key := keyV k }) = es := by
      apply Array.ext'
      rw [Array.toList_modify, ChangeMaps.modify_eq_set _ _ _ _ h2]
      have : ({ e0 with key := keyV k } : MapEntry) = e0 := by rw [← h3]
      rw [this]
      exact WideElems.set_self _ _ _ h2
    have r1 : (Instr.mapEntry 93 (.map (some b)) (keyV k)).run Tryz.prog w = .ok (.tuple #[e0.val, goInt e0.born]) (ChangeMaps.setBlock w b (.map es clock)) := by
      simp [Instr.mapEntry, run_underlying ht, MapKept.run_getObj_map hb, K.check w false hkey, h1, hj, h3, K.stays w hkey, hsame, MapKept.run_setObj_map _ hb, Result.andThen, ChangeMaps.setBlock]
    have e1 : w1 = w := by
      rw [r1] at he
      injection he with _ he
      rw [← he]
      unfold ChangeMaps.setBlock
      have : w.heap.setIfInBounds b (.map es clock) = w.heap := by
        apply Array.ext_getElem?
        intro i
        rw [Array.getElem?_setIfInBounds]
        by_cases hi : b = i
        · subst hi
          rw [if_pos rfl, if_pos (Array.getElem?_eq_some_iff.1 hb).1, hb]
        · rw [if_neg hi]
      rw [this]
    rw [e1]
    have ho := MapV.look (v := .map (some b)) (Or.inr ⟨b, rfl, h0⟩) keyedKey klP_W ht (zeroCe w) hkey
    rw [lkP] at ho
    exact ho
set_option maxRecDepth 100000 in
/-- 'm[k] += x': the entry, then the store. -/
theorem entryP (m : Ass Kp Int) (n b : Nat) (w : World) (h : OmP m n b w) (hn : n < maxLen) (k : Kp) (v : Int) : ∃ (v0 : Value) (st : Int) (w1 w2 : World),
    (Instr.mapEntry 93 (.map (some b)) (keyV k)).run Tryz.prog w = .ok (.tuple #[v0, .int .i64 st]) w1 ∧
    (Instr.lookup 93 (.map (some b)) (keyV k) false).run Tryz.prog w = .ok (.int .i64 (gP m k)) w ∧
    (Instr.entryStore 93 (.map (some b)) (.int .i64 st) (.int .i64 v)).run Tryz.prog w1 = .ok () w2 ∧
    w.grownBy w1 (some b) ∧ w1.heap.size = w.heap.size ∧ OmP ((k, v) :: m) (n + 1) b w2 ∧ w.grownBy w2 (some b) ∧ w2.heap.size = w.heap.size := by
  have hlook := MapV.look (v := .map (some b)) (Or.inr ⟨b, rfl, h⟩) keyedKey klP_W Tryz.underlying93 (zeroCe w) (keyOfP k)
  rw [lkP] at hlook
  obtain ⟨w3, hrun3, hown3, hg3⟩ := h.update keyedKey Tryz.underlying93 hn (keyOfP k) (show heldV (.int .i64 v) = some (.held (.int .i64 v), []) from rfl)
  obtain ⟨es, clock, hb, F, hs, hD⟩ := h
  obtain ⟨v0, st, es1, c1, hent, hv0, hst⟩ := WideElems.entry_then_store lawKey Tryz.underlying93 (z := .int .i64 0) zeroCe hb F (keyOfP k)
  have hb1 : (ChangeMaps.setBlock w b (.map es1 c1)).heap[b]? = some (.map es1 c1) := ChangeMaps.heap_setBlock_same hb _
  obtain ⟨es2, c2, hstore, hupd⟩ := hst (ChangeMaps.setBlock w b (.map es1 c1)) (.int .i64 v) hb1
  have e2 : ChangeMaps.setBlock (ChangeMaps.setBlock w b (.map es1 c1)) b (.map es2 c2) = w3 := by
    have e3 : ChangeMaps.setBlock w b (.map es2 c2) = w3 := by
      rw [hrun3] at hupd
      injection hupd with _ h
      exact h.symm
    rw [← e3]
    unfold ChangeMaps.setBlock
    simp
  rw [e2] at hstore
  refine ⟨v0, st, _, w3, hent, hlook, hstore, ⟨rfl, rfl, rfl, by simp [ChangeMaps.setBlock], fun i _ hi => ChangeMaps.heap_setBlock_other hb _ (fun e => hi (by rw [e]))⟩, by simp [ChangeMaps.setBlock], hown3, hg3, ?_⟩
  rw [← e2]
  simp [ChangeMaps.setBlock]
end Go.Proofs.YtgepbkldgnjpfaaGreatDoor

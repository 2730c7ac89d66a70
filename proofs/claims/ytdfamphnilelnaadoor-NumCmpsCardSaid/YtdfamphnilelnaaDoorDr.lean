/- ref10: side, Less. -/
import Derived.Deep.LoopGhost
import Derived.Test.YtdfamphnilelnaaDoorDq
import Derived.Test.YtdfamphnilelnaaDoorNg1
namespace Go.Proofs.YtdfamphnilelnaaDoor
open Go.RowKit

set_option maxRecDepth 100000 in
set_option maxHeartbeats 1000000 in
theorem rside_any (m : Bool) (A : Option Addr) (ds : List Int) (c : Nat) (pt ex : Int) (w : World) (h : Rd w A (ds.map (Value.int .i64))) (hl : ds.length ≤ 100000) :
    Calls Tryd.prog 28 #[numR m A ds c pt ex] w fun e w' => e = .returned (.int .i64 (sideR m ds)) ∧ Bel w.heap.size w w' := by
  have hz := fun w h => zero_any m A ds c pt ex w h hl
  have HR := Lib.hid (h.alloc (.cells #[.bool m, .slice A ds.length c, .int .i64 pt, .int .i64 ex] 47))
  unfold numR at *
  have HV := Lib.hid (show sideR m ds = if ds.all (· == 0) then 0 else if m then -1 else 1 from rfl)
  generalize sideR m ds = r at *
  generalize ds.all (· == 0) = z at *
  cases z
  · cases m
    all_goals
      go_enter Tryd.func28, Tryd.ntmps28
      go_wp2_with (go_at_call 35; refine (hz _ HR.out).mono ?_; rintro e w1 ⟨rfl, hb⟩; have HK := Lib.hid ((Blk.new w 47 _).bel hb (by simp)); have HW := Lib.hid (((Bel.refl w.heap.size w).alloc (Nat.le_refl _) _).trans (hb.mono (by simp))); clear hb; obtain ⟨xsz, ⟨x0, x1, x2, x3⟩, y0, y1, y2, y3⟩ := HK.out.four)
      go_ret
      exact ⟨ret_int HV.out.symm, HW.out⟩
  · go_enter Tryd.func28, Tryd.ntmps28
    go_wp2_with (go_at_call 35; refine (hz _ HR.out).mono ?_; rintro e w1 ⟨rfl, hb⟩; have HW := Lib.hid (((Bel.refl w.heap.size w).alloc (Nat.le_refl _) _).trans (hb.mono (by simp))); clear hb)
    go_ret
    exact ⟨ret_int HV.out.symm, HW.out⟩

/-- Where the two numbers lie. -/
def LS (w wr : World) (a b : Array Value) (A B : Option Addr) (da db : List Int) : Prop :=
  Blk wr w.heap.size 47 a ∧ Blk wr (w.heap.size + 1) 47 b ∧ Rd wr A (da.map (Value.int .i64)) ∧ Rd wr B (db.map (Value.int .i64)) ∧ Bel w.heap.size w wr
section
variable {w wr w2 : World} {a b : Array Value} {A B : Option Addr} {da db : List Int}
theorem LS.bel (h : LS w wr a b A B da db) (hb : Bel wr.heap.size wr w2) : LS w w2 a b A B da db :=
  ⟨h.1.bel hb h.1.lt, h.2.1.bel hb h.2.1.lt, h.2.2.1.bel hb (Nat.le_refl _), h.2.2.2.1.bel hb (Nat.le_refl _), h.2.2.2.2.next hb⟩
theorem LS.drew (h : LS w wr a b A B da db) : LS w wr.drew a b A B da db := ⟨h.1, h.2.1, h.2.2.1, h.2.2.2.1, h.2.2.2.2.drew⟩
theorem LS.start (hA : Rd w A (da.map (Value.int .i64))) (hB : Rd w B (db.map (Value.int .i64))) : LS w ((w.alloc (.cells a 47)).alloc (.cells b 47)) a b A B da db :=
  ⟨(Blk.new _ _ _).alloc _, Blk.new1 _ _ _ _, (hA.alloc _).alloc _, (hB.alloc _).alloc _, ((Bel.refl _ _).alloc (Nat.le_refl _) _).alloc (by simp) _⟩
end
theorem low_top (ds : List Int) (p : Int) (h : ds.all (· == 0) = false) : lowR ds p ≤ topR ds p := by
  unfold lowR topR; have := lz_tz ds h; omega
theorem atD_bd {ds : List Int} (h : ∀ d ∈ ds, 0 ≤ d ∧ d ≤ 9) (i : Int) : 0 ≤ atD ds i ∧ atD ds i ≤ 9 := by
  unfold atD; split
  · omega
  · rw [List.getD_eq_getElem?_getD]
    rcases Nat.lt_or_ge i.toNat ds.length with hlt | hge
    · rw [List.getElem?_eq_getElem hlt]; exact h _ (List.getElem_mem hlt)
    · rw [List.getElem?_eq_none hge]; simp
theorem lexD_bd (f g : Nat → Int) : ∀ n i, -1 ≤ lexD f g i n ∧ lexD f g i n ≤ 1
  | 0, i => by simp [lexD]
  | n + 1, i => by
    rw [lexD]; split
    · omega
    · split
      · omega
      · exact lexD_bd f g n (i + 1)

set_option maxRecDepth 100000 in
set_option maxHeartbeats 4000000 in
theorem less_any (ma mb : Bool) (A B : Option Addr) (da db : List Int) (ca cb : Nat) (pa pb ea eb : Int) (w : World) (hA : Rd w A (da.map (Value.int .i64))) (hB : Rd w B (db.map (Value.int .i64)))
    (hla : da.length ≤ 100000) (hlb : db.length ≤ 100000) (bda : ∀ d ∈ da, 0 ≤ d ∧ d ≤ 9) (bdb : ∀ d ∈ db, 0 ≤ d ∧ d ≤ 9) (pa0 : -100000 ≤ pa) (pa1 : pa ≤ 100000) (pb0 : -100000 ≤ pb) (pb1 : pb ≤ 100000)
    (ea0 : -1000000000000 ≤ ea) (ea1 : ea ≤ 1000000000000) (eb0 : -1000000000000 ≤ eb) (eb1 : eb ≤ 1000000000000) :
    Calls Tryd.prog 21 #[numR ma A da ca pa ea, numR mb B db cb pb eb] w fun e w' => e = .returned (.int .i64 (lessR ma mb da db (pa + ea) (pb + eb))) ∧ Bel w.heap.size w w' := by
  have hsidea := fun w h => rside_any ma A da ca pa ea w h hla
  have hsideb := fun w h => rside_any mb B db cb pb eb w h hlb
  have htopa := fun w h hz => top_any ma A da ca pa ea w h hla hz pa0 pa1 ea0 ea1
  have htopb := fun w h hz => top_any mb B db cb pb eb w h hlb hz pb0 pb1 eb0 eb1
  have hlowa := fun w h hz => low_any ma A da ca pa ea w h hla hz pa0 pa1 ea0 ea1
  have hlowb := fun w h hz => low_any mb B db cb pb eb w h hlb hz pb0 pb1 eb0 eb1
  have hata := fun w h k k0 k1 => at_any ma A da ca pa ea k w h hla pa0 pa1 ea0 ea1 k0 k1
  have hatb := fun w h k k0 k1 => at_any mb B db cb pb eb k w h hlb pb0 pb1 eb0 eb1 k0 k1
  unfold numR at *
  have hza := lz_le da; have hzb := lz_le db
  have ba := sideR_bd ma da; have bb := sideR_bd mb db
  have HL := Lib.hid (show lessR ma mb da db (pa + ea) (pb + eb) = if sideR ma da < sideR mb db then -1 else if sideR mb db < sideR ma da then 1 else if sideR ma da = 0 then 0 else if topR da (pa + ea) ≠ topR db (pb + eb) then (if topR da (pa + ea) < topR db (pb + eb) then -(sideR ma da) else sideR ma da) else sideR ma da * lexD (fun j => atD da ((lz da + j : Nat) : Int)) (fun j => atD db ((lz db + j : Nat) : Int)) 0 (topR da (pa + ea) - min (lowR da (pa + ea)) (lowR db (pb + eb)) + 1).toNat from rfl)
  generalize lessR ma mb da db (pa + ea) (pb + eb) = r at *
  generalize sideR ma da = sa at *
  generalize sideR mb db = sb at *
  have eta : pa + ea - 1 - (lz da : Int) = topR da (pa + ea) := rfl
  have etb : pb + eb - 1 - (lz db : Int) = topR db (pb + eb) := rfl
  have ela : pa + ea - 1 - ((da.length - 1 - tz da : Nat) : Int) = lowR da (pa + ea) := rfl
  have elb : pb + eb - 1 - ((db.length - 1 - tz db : Nat) : Int) = lowR db (pb + eb) := rfl
  rw [eta] at htopa; rw [etb] at htopb; rw [ela] at hlowa; rw [elb] at hlowb
  have hlt0 := low_top da (pa + ea)
  obtain ⟨la, hlae⟩ : ∃ n, da.length = n := ⟨_, rfl⟩
  obtain ⟨lb, hlbe⟩ : ∃ n, db.length = n := ⟨_, rfl⟩
  simp only [hlae, hlbe] at *
  obtain ⟨ta, hta⟩ : ∃ x, topR da (pa + ea) = x := ⟨_, rfl⟩
  obtain ⟨tb, htb⟩ : ∃ x, topR db (pb + eb) = x := ⟨_, rfl⟩
  obtain ⟨loa, hloa⟩ : ∃ x, lowR da (pa + ea) = x := ⟨_, rfl⟩
  obtain ⟨lob, hlob⟩ : ∃ x, lowR db (pb + eb) = x := ⟨_, rfl⟩
  simp only [hta, htb, hloa, hlob] at *
  have hta0 : -1500000000000 ≤ ta := by omega
  have hta1 : ta ≤ 1500000000000 := by omega
  have htb0 : -1500000000000 ≤ tb := by omega
  have htb1 : tb ≤ 1500000000000 := by omega
  have hloa0 : -1500000000000 ≤ loa := by omega
  have hloa1 : loa ≤ 1500000000000 := by omega
  have hlob0 : -1500000000000 ≤ lob := by omega
  have hlob1 : lob ≤ 1500000000000 := by omega
  have HTA := Lib.hid eta; have HTB := Lib.hid etb; have HLA := Lib.hid ela; have HLB := Lib.hid elb
  have HLE := Lib.hid (And.intro hlae hlbe)
  clear eta etb ela elb hta htb hloa hlob hlae hlbe
  have HS := Lib.hid (LS.start (a := #[.bool ma, .slice A la ca, .int .i64 pa, .int .i64 ea]) (b := #[.bool mb, .slice B lb cb, .int .i64 pb, .int .i64 eb]) hA hB)
  clear hA hB
  go_enter Tryd.func21, Tryd.ntmps21
  obtain ⟨hx, hu, hr1, hr2, hbe⟩ := HS.out; obtain ⟨xsz, ⟨x0, x1, x2, x3⟩, y0, y1, y2, y3⟩ := hx.four; obtain ⟨usz, ⟨u0, u1, u2, u3⟩, v0, v1, v2, v3⟩ := hu.four; have HR1 := Lib.hid hr1; have HR2 := Lib.hid hr2; have HW := Lib.hid hbe; clear hx hu hr1 hr2 hbe
  go_upto_region 1 with fail
  go_cut [5, 6] (fun u v wx => u = .int .i64 sa ∧ v = .int .i64 sb ∧ Hid (LS w wx #[.bool ma, .slice A la ca, .int .i64 pa, .int .i64 ea] #[.bool mb, .slice B lb cb, .int .i64 pb, .int .i64 eb] A B da db))
  case first =>
    go_region_with (first | (go_at_call_of 28 (Value.agg #[Value.bool ma, Value.slice A la ca, Value.int IntKind.i64 pa, Value.int IntKind.i64 ea]); refine (hsidea _ (by first | exact HR1.out | exact HR1.out.drew)).mono ?_; rintro e w2 ⟨rfl, hb⟩; have HS := Lib.hid (show LS w w2 #[.bool ma, .slice A la ca, .int .i64 pa, .int .i64 ea] #[.bool mb, .slice B lb cb, .int .i64 pb, .int .i64 eb] A B da db by first | exact HS.out.bel hb | exact HS.out.drew.bel hb); clear hb HR1 HR2 HW; clear x0 x1 x2 x3 y0 y1 y2 y3 u0 u1 u2 u3 v0 v1 v2 v3 xsz usz; obtain ⟨hx, hu, hr1, hr2, hbe⟩ := HS.out; obtain ⟨xsz, ⟨x0, x1, x2, x3⟩, y0, y1, y2, y3⟩ := hx.four; obtain ⟨usz, ⟨u0, u1, u2, u3⟩, v0, v1, v2, v3⟩ := hu.four; have HR1 := Lib.hid hr1; have HR2 := Lib.hid hr2; have HW := Lib.hid hbe; clear hx hu hr1 hr2 hbe) | (go_at_call_of 28 (Value.agg #[Value.bool mb, Value.slice B lb cb, Value.int IntKind.i64 pb, Value.int IntKind.i64 eb]); refine (hsideb _ (by first | exact HR2.out | exact HR2.out.drew)).mono ?_; rintro e w2 ⟨rfl, hb⟩; have HS := Lib.hid (show LS w w2 #[.bool ma, .slice A la ca, .int .i64 pa, .int .i64 ea] #[.bool mb, .slice B lb cb, .int .i64 pb, .int .i64 eb] A B da db by first | exact HS.out.bel hb | exact HS.out.drew.bel hb); clear hb HR1 HR2 HW; clear x0 x1 x2 x3 y0 y1 y2 y3 u0 u1 u2 u3 v0 v1 v2 v3 xsz usz; obtain ⟨hx, hu, hr1, hr2, hbe⟩ := HS.out; obtain ⟨xsz, ⟨x0, x1, x2, x3⟩, y0, y1, y2, y3⟩ := hx.four; obtain ⟨usz, ⟨u0, u1, u2, u3⟩, v0, v1, v2, v3⟩ := hu.four; have HR1 := Lib.hid hr1; have HR2 := Lib.hid hr2; have HW := Lib.hid hbe; clear hx hu hr1 hr2 hbe))
    all_goals
      go_wp2
      go_meet
      case rel => exact ⟨rfl, rfl, HS⟩
  case rest =>
    obtain ⟨rfl, rfl, HS9⟩ := hcut
    clear HS HR1 HR2 HW
    clear x0 x1 x2 x3 y0 y1 y2 y3 u0 u1 u2 u3 v0 v1 v2 v3 xsz usz
    have HS := HS9; clear HS9
    obtain ⟨hx, hu, hr1, hr2, hbe⟩ := HS.out; obtain ⟨xsz, ⟨x0, x1, x2, x3⟩, y0, y1, y2, y3⟩ := hx.four; obtain ⟨usz, ⟨u0, u1, u2, u3⟩, v0, v1, v2, v3⟩ := hu.four; have HR1 := Lib.hid hr1; have HR2 := Lib.hid hr2; have HW := Lib.hid hbe; clear hx hu hr1 hr2 hbe
    by_cases c1 : sa < sb
    · have HQ := Lib.hid (HL.out.trans (if_pos c1))
      go_wp2
      go_ret
      exact ⟨ret_int HQ.out.symm, HW.out⟩
    · by_cases c2 : sb < sa
      · have HQ := Lib.hid (HL.out.trans ((if_neg c1).trans (if_pos c2)))
        go_wp2
        go_ret
        exact ⟨ret_int HQ.out.symm, HW.out⟩
      · obtain rfl : sa = sb := by omega
        have HL2 := Lib.hid (HL.out.trans ((if_neg c1).trans (if_neg c2)))
        by_cases s0 : sa = 0
        · have HQ := Lib.hid (HL2.out.trans (if_pos s0))
          subst s0
          go_wp2
          go_ret
          exact ⟨ret_int HQ.out.symm, HW.out⟩
        · have HL3 := Lib.hid (HL2.out.trans (if_neg s0))
          have hs0 : (sa == 0) = false := beq_eq_false_iff_ne.2 s0
          have za : da.all (· == 0) = false := by rcases ba with ⟨e, _⟩ | ⟨_, e⟩; exact absurd e s0; exact e
          have zb : db.all (· == 0) = false := by rcases bb with ⟨e, _⟩ | ⟨_, e⟩; exact absurd e s0; exact e
          have hs1 : sa = 1 ∨ sa = -1 := by rcases ba with ⟨e, _⟩ | ⟨e, _⟩; exact absurd e s0; exact e
          have htopa := fun w h => htopa w h za
          have htopb := fun w h => htopb w h zb
          have hlowa := fun w h => hlowa w h za
          have hlowb := fun w h => hlowb w h zb
          have hml := hlt0 za
          clear ba bb za zb c1 c2 HL HL2 hlt0
          go_upto_region 8 with fail
          go_cut [24] (fun u wx => u = .bool (ta != tb) ∧ Hid (LS w wx #[.bool ma, .slice A la ca, .int .i64 pa, .int .i64 ea] #[.bool mb, .slice B lb cb, .int .i64 pb, .int .i64 eb] A B da db))
          case first =>
            go_region_with (first | (go_at_call_of 29 (Value.agg #[Value.bool ma, Value.slice A la ca, Value.int IntKind.i64 pa, Value.int IntKind.i64 ea]); refine (htopa _ (by first | exact HR1.out | exact HR1.out.drew)).mono ?_; rintro e w2 ⟨rfl, hb⟩; have HS := Lib.hid (show LS w w2 #[.bool ma, .slice A la ca, .int .i64 pa, .int .i64 ea] #[.bool mb, .slice B lb cb, .int .i64 pb, .int .i64 eb] A B da db by first | exact HS.out.bel hb | exact HS.out.drew.bel hb); clear hb HR1 HR2 HW; clear x0 x1 x2 x3 y0 y1 y2 y3 u0 u1 u2 u3 v0 v1 v2 v3 xsz usz; obtain ⟨hx, hu, hr1, hr2, hbe⟩ := HS.out; obtain ⟨xsz, ⟨x0, x1, x2, x3⟩, y0, y1, y2, y3⟩ := hx.four; obtain ⟨usz, ⟨u0, u1, u2, u3⟩, v0, v1, v2, v3⟩ := hu.four; have HR1 := Lib.hid hr1; have HR2 := Lib.hid hr2; have HW := Lib.hid hbe; clear hx hu hr1 hr2 hbe) | (go_at_call_of 29 (Value.agg #[Value.bool mb, Value.slice B lb cb, Value.int IntKind.i64 pb, Value.int IntKind.i64 eb]); refine (htopb _ (by first | exact HR2.out | exact HR2.out.drew)).mono ?_; rintro e w2 ⟨rfl, hb⟩; have HS := Lib.hid (show LS w w2 #[.bool ma, .slice A la ca, .int .i64 pa, .int .i64 ea] #[.bool mb, .slice B lb cb, .int .i64 pb, .int .i64 eb] A B da db by first | exact HS.out.bel hb | exact HS.out.drew.bel hb); clear hb HR1 HR2 HW; clear x0 x1 x2 x3 y0 y1 y2 y3 u0 u1 u2 u3 v0 v1 v2 v3 xsz usz; obtain ⟨hx, hu, hr1, hr2, hbe⟩ := HS.out; obtain ⟨xsz, ⟨x0, x1, x2, x3⟩, y0, y1, y2, y3⟩ := hx.four; obtain ⟨usz, ⟨u0, u1, u2, u3⟩, v0, v1, v2, v3⟩ := hu.four; have HR1 := Lib.hid hr1; have HR2 := Lib.hid hr2; have HW := Lib.hid hbe; clear hx hu hr1 hr2 hbe))
            all_goals
              go_wp2
              go_meet
              case rel => exact ⟨rfl, HS⟩
          case rest =>
            obtain ⟨rfl, HS9⟩ := hcut
            clear HS HR1 HR2 HW
            clear x0 x1 x2 x3 y0 y1 y2 y3 u0 u1 u2 u3 v0 v1 v2 v3 xsz usz
            have HS := HS9; clear HS9
            obtain ⟨hx, hu, hr1, hr2, hbe⟩ := HS.out; obtain ⟨xsz, ⟨x0, x1, x2, x3⟩, y0, y1, y2, y3⟩ := hx.four; obtain ⟨usz, ⟨u0, u1, u2, u3⟩, v0, v1, v2, v3⟩ := hu.four; have HR1 := Lib.hid hr1; have HR2 := Lib.hid hr2; have HW := Lib.hid hbe; clear hx hu hr1 hr2 hbe
            by_cases ht : ta = tb
            · have HL4 := Lib.hid (HL3.out.trans (if_neg (by intro h; exact h ht)))
              subst ht
              have hn : (ta != ta) = false := by simp
              obtain ⟨fa, hfa⟩ : ∃ fa : Nat → Int, ∀ j, fa j = atD da ((lz da + j : Nat) : Int) := ⟨_, fun _ => rfl⟩
              obtain ⟨fb, hfb⟩ : ∃ fb : Nat → Int, ∀ j, fb j = atD db ((lz db + j : Nat) : Int) := ⟨_, fun _ => rfl⟩
              have e1 : (fun j => atD da ((lz da + j : Nat) : Int)) = fa := funext fun j => (hfa j).symm
              have e2 : (fun j => atD db ((lz db + j : Nat) : Int)) = fb := funext fun j => (hfb j).symm
              obtain ⟨mn, hmn⟩ : ∃ mn, min loa lob = mn := ⟨_, rfl⟩
              have hmb : mn ≤ loa ∧ mn ≤ lob ∧ (mn = loa ∨ mn = lob) := by omega
              obtain ⟨N, hN⟩ : ∃ N : Nat, (N : Int) = ta - mn + 1 := ⟨(ta - mn + 1).toNat, by omega⟩
              have HL5 := Lib.hid (show r = sa * lexD fa fb 0 N by
                have h := HL4.out
                rw [e1, e2, hmn, show (ta - mn + 1).toNat = N by omega] at h
                exact h)
              have HFA := Lib.hid hfa; have HFB := Lib.hid hfb
              have hfab := fun j => (by rw [hfa]; exact atD_bd bda _ : 0 ≤ fa j ∧ fa j ≤ 9)
              have hfbb := fun j => (by rw [hfb]; exact atD_bd bdb _ : 0 ≤ fb j ∧ fb j ≤ 9)
              have HFAB := Lib.hid hfab; have HFBB := Lib.hid hfbb
              have HMN := Lib.hid hmn
              have hsab : -1 ≤ sa ∧ sa ≤ 1 := by omega
              obtain ⟨hsa0, hsa1⟩ := hsab
              clear e1 e2 hfa hfb hfab hfbb hmn HL3 HL4 hs1
              go_wp2_with (go_at_call_of 29 (Value.agg #[Value.bool ma, Value.slice A la ca, Value.int IntKind.i64 pa, Value.int IntKind.i64 ea]); refine (htopa _ (by first | exact HR1.out | exact HR1.out.drew)).mono ?_; rintro e w2 ⟨rfl, hb⟩; have HS := Lib.hid (show LS w w2 #[.bool ma, .slice A la ca, .int .i64 pa, .int .i64 ea] #[.bool mb, .slice B lb cb, .int .i64 pb, .int .i64 eb] A B da db by first | exact HS.out.bel hb | exact HS.out.drew.bel hb); clear hb HR1 HR2 HW; clear x0 x1 x2 x3 y0 y1 y2 y3 u0 u1 u2 u3 v0 v1 v2 v3 xsz usz; obtain ⟨hx, hu, hr1, hr2, hbe⟩ := HS.out; obtain ⟨xsz, ⟨x0, x1, x2, x3⟩, y0, y1, y2, y3⟩ := hx.four; obtain ⟨usz, ⟨u0, u1, u2, u3⟩, v0, v1, v2, v3⟩ := hu.four; have HR1 := Lib.hid hr1; have HR2 := Lib.hid hr2; have HW := Lib.hid hbe; clear hx hu hr1 hr2 hbe)
              go_loopg [7] N (fun g v wr => ∃ j : Nat, g = N - j ∧ j ≤ N ∧ v = .int .i64 (ta - j) ∧ Hid (lexD fa fb 0 N = lexD fa fb j (N - j)) ∧ Hid (LS w wr #[.bool ma, .slice A la ca, .int .i64 pa, .int .i64 ea] #[.bool mb, .slice B lb cb, .int .i64 pb, .int .i64 eb] A B da db))
              case atStart => exact ⟨0, rfl, by omega, by go_num, Lib.hid rfl, HS⟩
              case round =>
                clear HS HR1 HR2 HW xsz usz x0 x1 x2 x3 y0 y1 y2 y3 u0 u1 u2 u3 v0 v1 v2 v3
                obtain ⟨j, hg, hj, rfl, HJ, HS⟩ := hrel
                have HG := Lib.hid hg; clear hg
                obtain ⟨hx, hu, hr1, hr2, hbe⟩ := HS.out; obtain ⟨xsz, ⟨x0, x1, x2, x3⟩, y0, y1, y2, y3⟩ := hx.four; obtain ⟨usz, ⟨u0, u1, u2, u3⟩, v0, v1, v2, v3⟩ := hu.four; have HR1 := Lib.hid hr1; have HR2 := Lib.hid hr2; have HW := Lib.hid hbe; clear hx hu hr1 hr2 hbe
                have hata : ∀ wr, Rd wr A (da.map (Value.int .i64)) → Calls Tryd.prog 31 #[.agg #[.bool ma, .slice A la ca, .int .i64 pa, .int .i64 ea], .int .i64 (ta - j)] wr fun e w' => e = .returned (.int .i64 (fa j)) ∧ Bel wr.heap.size wr w' := fun wr h => by
                  have h2 := hata wr h (ta - j) (by omega) (by omega)
                  rw [show pa + ea - 1 - (ta - (j : Int)) = ((lz da + j : Nat) : Int) by have := HTA.out; omega, ← HFA.out] at h2
                  exact h2
                have hatb : ∀ wr, Rd wr B (db.map (Value.int .i64)) → Calls Tryd.prog 31 #[.agg #[.bool mb, .slice B lb cb, .int .i64 pb, .int .i64 eb], .int .i64 (ta - j)] wr fun e w' => e = .returned (.int .i64 (fb j)) ∧ Bel wr.heap.size wr w' := fun wr h => by
                  have h2 := hatb wr h (ta - j) (by omega) (by omega)
                  rw [show pb + eb - 1 - (ta - (j : Int)) = ((lz db + j : Nat) : Int) by have := HTB.out; omega, ← HFB.out] at h2
                  exact h2
                have ga := HFAB.out j
                have gb := HFBB.out j
                obtain ⟨xa, hxa⟩ : ∃ x, fa j = x := ⟨_, rfl⟩
                obtain ⟨xb, hxb⟩ : ∃ x, fb j = x := ⟨_, rfl⟩
                rw [hxa] at hata ga
                rw [hxb] at hatb gb
                obtain ⟨ga0, ga1⟩ := ga
                obtain ⟨gb0, gb1⟩ := gb
                have HX := Lib.hid (And.intro hxa hxb); clear hxa hxb
                go_upto_region 13 with fail
                go_cut [41] (fun u wx => u = .bool (decide (mn ≤ ta - j)) ∧ Hid (LS w wx #[.bool ma, .slice A la ca, .int .i64 pa, .int .i64 ea] #[.bool mb, .slice B lb cb, .int .i64 pb, .int .i64 eb] A B da db))
                case first =>
                  go_region_with (first | (go_at_call_of 30 (Value.agg #[Value.bool ma, Value.slice A la ca, Value.int IntKind.i64 pa, Value.int IntKind.i64 ea]); refine (hlowa _ (by first | exact HR1.out | exact HR1.out.drew)).mono ?_; rintro e w2 ⟨rfl, hb⟩; have HS := Lib.hid (show LS w w2 #[.bool ma, .slice A la ca, .int .i64 pa, .int .i64 ea] #[.bool mb, .slice B lb cb, .int .i64 pb, .int .i64 eb] A B da db by first | exact HS.out.bel hb | exact HS.out.drew.bel hb); clear hb HR1 HR2 HW; clear x0 x1 x2 x3 y0 y1 y2 y3 u0 u1 u2 u3 v0 v1 v2 v3 xsz usz; obtain ⟨hx, hu, hr1, hr2, hbe⟩ := HS.out; obtain ⟨xsz, ⟨x0, x1, x2, x3⟩, y0, y1, y2, y3⟩ := hx.four; obtain ⟨usz, ⟨u0, u1, u2, u3⟩, v0, v1, v2, v3⟩ := hu.four; have HR1 := Lib.hid hr1; have HR2 := Lib.hid hr2; have HW := Lib.hid hbe; clear hx hu hr1 hr2 hbe) | (go_at_call_of 30 (Value.agg #[Value.bool mb, Value.slice B lb cb, Value.int IntKind.i64 pb, Value.int IntKind.i64 eb]); refine (hlowb _ (by first | exact HR2.out | exact HR2.out.drew)).mono ?_; rintro e w2 ⟨rfl, hb⟩; have HS := Lib.hid (show LS w w2 #[.bool ma, .slice A la ca, .int .i64 pa, .int .i64 ea] #[.bool mb, .slice B lb cb, .int .i64 pb, .int .i64 eb] A B da db by first | exact HS.out.bel hb | exact HS.out.drew.bel hb); clear hb HR1 HR2 HW; clear x0 x1 x2 x3 y0 y1 y2 y3 u0 u1 u2 u3 v0 v1 v2 v3 xsz usz; obtain ⟨hx, hu, hr1, hr2, hbe⟩ := HS.out; obtain ⟨xsz, ⟨x0, x1, x2, x3⟩, y0, y1, y2, y3⟩ := hx.four; obtain ⟨usz, ⟨u0, u1, u2, u3⟩, v0, v1, v2, v3⟩ := hu.four; have HR1 := Lib.hid hr1; have HR2 := Lib.hid hr2; have HW := Lib.hid hbe; clear hx hu hr1 hr2 hbe))
                  all_goals
                    go_wp2
                    go_meet
                    case rel => exact ⟨congrArg (fun x => Value.bool (decide (x ≤ ta - (j : Int)))) HMN.out, HS⟩
                case rest =>
                  obtain ⟨rfl, HS9⟩ := hcut
                  clear HS HR1 HR2 HW
                  clear x0 x1 x2 x3 y0 y1 y2 y3 u0 u1 u2 u3 v0 v1 v2 v3 xsz usz
                  have HS := HS9; clear HS9
                  obtain ⟨hx, hu, hr1, hr2, hbe⟩ := HS.out; obtain ⟨xsz, ⟨x0, x1, x2, x3⟩, y0, y1, y2, y3⟩ := hx.four; obtain ⟨usz, ⟨u0, u1, u2, u3⟩, v0, v1, v2, v3⟩ := hu.four; have HR1 := Lib.hid hr1; have HR2 := Lib.hid hr2; have HW := Lib.hid hbe; clear hx hu hr1 hr2 hbe
                  by_cases hlt : j < N
                  · have hle : mn ≤ ta - (j : Int) := by omega
                    have HJ2 := Lib.hid (HJ.out.trans (by rw [show N - j = (N - (j + 1)) + 1 by omega, lexD, HX.out.1, HX.out.2] : lexD fa fb j (N - j) = if xa < xb then -1 else if xb < xa then 1 else lexD fa fb (j + 1) (N - (j + 1))))
                    go_upto_region 15 with fail
                    go_cut [50] (fun u wx => u = .bool (decide (xa < xb)) ∧ Hid (LS w wx #[.bool ma, .slice A la ca, .int .i64 pa, .int .i64 ea] #[.bool mb, .slice B lb cb, .int .i64 pb, .int .i64 eb] A B da db))
                    case first =>
                      go_region_with (first | (go_at_call_of 31 (Value.agg #[Value.bool ma, Value.slice A la ca, Value.int IntKind.i64 pa, Value.int IntKind.i64 ea]); refine (hata _ (by first | exact HR1.out | exact HR1.out.drew)).mono ?_; rintro e w2 ⟨rfl, hb⟩; have HS := Lib.hid (show LS w w2 #[.bool ma, .slice A la ca, .int .i64 pa, .int .i64 ea] #[.bool mb, .slice B lb cb, .int .i64 pb, .int .i64 eb] A B da db by first | exact HS.out.bel hb | exact HS.out.drew.bel hb); clear hb HR1 HR2 HW; clear x0 x1 x2 x3 y0 y1 y2 y3 u0 u1 u2 u3 v0 v1 v2 v3 xsz usz; obtain ⟨hx, hu, hr1, hr2, hbe⟩ := HS.out; obtain ⟨xsz, ⟨x0, x1, x2, x3⟩, y0, y1, y2, y3⟩ := hx.four; obtain ⟨usz, ⟨u0, u1, u2, u3⟩, v0, v1, v2, v3⟩ := hu.four; have HR1 := Lib.hid hr1; have HR2 := Lib.hid hr2; have HW := Lib.hid hbe; clear hx hu hr1 hr2 hbe) | (go_at_call_of 31 (Value.agg #[Value.bool mb, Value.slice B lb cb, Value.int IntKind.i64 pb, Value.int IntKind.i64 eb]); refine (hatb _ (by first | exact HR2.out | exact HR2.out.drew)).mono ?_; rintro e w2 ⟨rfl, hb⟩; have HS := Lib.hid (show LS w w2 #[.bool ma, .slice A la ca, .int .i64 pa, .int .i64 ea] #[.bool mb, .slice B lb cb, .int .i64 pb, .int .i64 eb] A B da db by first | exact HS.out.bel hb | exact HS.out.drew.bel hb); clear hb HR1 HR2 HW; clear x0 x1 x2 x3 y0 y1 y2 y3 u0 u1 u2 u3 v0 v1 v2 v3 xsz usz; obtain ⟨hx, hu, hr1, hr2, hbe⟩ := HS.out; obtain ⟨xsz, ⟨x0, x1, x2, x3⟩, y0, y1, y2, y3⟩ := hx.four; obtain ⟨usz, ⟨u0, u1, u2, u3⟩, v0, v1, v2, v3⟩ := hu.four; have HR1 := Lib.hid hr1; have HR2 := Lib.hid hr2; have HW := Lib.hid hbe; clear hx hu hr1 hr2 hbe))
                      all_goals
                        go_wp2
                        go_meet
                        case rel => exact ⟨rfl, HS⟩
                    case rest =>
                      obtain ⟨rfl, HS9⟩ := hcut
                      clear HS HR1 HR2 HW
                      clear x0 x1 x2 x3 y0 y1 y2 y3 u0 u1 u2 u3 v0 v1 v2 v3 xsz usz
                      have HS := HS9; clear HS9
                      obtain ⟨hx, hu, hr1, hr2, hbe⟩ := HS.out; obtain ⟨xsz, ⟨x0, x1, x2, x3⟩, y0, y1, y2, y3⟩ := hx.four; obtain ⟨usz, ⟨u0, u1, u2, u3⟩, v0, v1, v2, v3⟩ := hu.four; have HR1 := Lib.hid hr1; have HR2 := Lib.hid hr2; have HW := Lib.hid hbe; clear hx hu hr1 hr2 hbe
                      by_cases c1 : xa < xb
                      · have HQ := Lib.hid (show r = -sa by rw [HL5.out, HJ2.out, if_pos c1]; omega)
                        go_wp2
                        go_ret
                        exact ⟨ret_int HQ.out.symm, HW.out⟩
                      · skip
                        go_upto_region 17 with fail
                        go_cut [59] (fun u wx => u = .bool (decide (xb < xa)) ∧ Hid (LS w wx #[.bool ma, .slice A la ca, .int .i64 pa, .int .i64 ea] #[.bool mb, .slice B lb cb, .int .i64 pb, .int .i64 eb] A B da db))
                        case first =>
                          go_region_with (first | (go_at_call_of 31 (Value.agg #[Value.bool ma, Value.slice A la ca, Value.int IntKind.i64 pa, Value.int IntKind.i64 ea]); refine (hata _ (by first | exact HR1.out | exact HR1.out.drew)).mono ?_; rintro e w2 ⟨rfl, hb⟩; have HS := Lib.hid (show LS w w2 #[.bool ma, .slice A la ca, .int .i64 pa, .int .i64 ea] #[.bool mb, .slice B lb cb, .int .i64 pb, .int .i64 eb] A B da db by first | exact HS.out.bel hb | exact HS.out.drew.bel hb); clear hb HR1 HR2 HW; clear x0 x1 x2 x3 y0 y1 y2 y3 u0 u1 u2 u3 v0 v1 v2 v3 xsz usz; obtain ⟨hx, hu, hr1, hr2, hbe⟩ := HS.out; obtain ⟨xsz, ⟨x0, x1, x2, x3⟩, y0, y1, y2, y3⟩ := hx.four; obtain ⟨usz, ⟨u0, u1, u2, u3⟩, v0, v1, v2, v3⟩ := hu.four; have HR1 := Lib.hid hr1; have HR2 := Lib.hid hr2; have HW := Lib.hid hbe; clear hx hu hr1 hr2 hbe) | (go_at_call_of 31 (Value.agg #[Value.bool mb, Value.slice B lb cb, Value.int IntKind.i64 pb, Value.int IntKind.i64 eb]); refine (hatb _ (by first | exact HR2.out | exact HR2.out.drew)).mono ?_; rintro e w2 ⟨rfl, hb⟩; have HS := Lib.hid (show LS w w2 #[.bool ma, .slice A la ca, .int .i64 pa, .int .i64 ea] #[.bool mb, .slice B lb cb, .int .i64 pb, .int .i64 eb] A B da db by first | exact HS.out.bel hb | exact HS.out.drew.bel hb); clear hb HR1 HR2 HW; clear x0 x1 x2 x3 y0 y1 y2 y3 u0 u1 u2 u3 v0 v1 v2 v3 xsz usz; obtain ⟨hx, hu, hr1, hr2, hbe⟩ := HS.out; obtain ⟨xsz, ⟨x0, x1, x2, x3⟩, y0, y1, y2, y3⟩ := hx.four; obtain ⟨usz, ⟨u0, u1, u2, u3⟩, v0, v1, v2, v3⟩ := hu.four; have HR1 := Lib.hid hr1; have HR2 := Lib.hid hr2; have HW := Lib.hid hbe; clear hx hu hr1 hr2 hbe))
                          all_goals
                            go_wp2
                            go_meet
                            case rel => exact ⟨rfl, HS⟩
                        case rest =>
                          obtain ⟨rfl, HS9⟩ := hcut
                          clear HS HR1 HR2 HW
                          clear x0 x1 x2 x3 y0 y1 y2 y3 u0 u1 u2 u3 v0 v1 v2 v3 xsz usz
                          have HS := HS9; clear HS9
                          obtain ⟨hx, hu, hr1, hr2, hbe⟩ := HS.out; obtain ⟨xsz, ⟨x0, x1, x2, x3⟩, y0, y1, y2, y3⟩ := hx.four; obtain ⟨usz, ⟨u0, u1, u2, u3⟩, v0, v1, v2, v3⟩ := hu.four; have HR1 := Lib.hid hr1; have HR2 := Lib.hid hr2; have HW := Lib.hid hbe; clear hx hu hr1 hr2 hbe
                          by_cases c2 : xb < xa
                          · have HQ := Lib.hid (show r = sa by rw [HL5.out, HJ2.out, if_neg c1, if_pos c2]; omega)
                            go_wp2
                            go_ret
                            exact ⟨ret_int HQ.out.symm, HW.out⟩
                          · have HJ3 := Lib.hid (HJ2.out.trans ((if_neg c1).trans (if_neg c2)))
                            go_wp2
                            go_roundg (N - (j + 1))
                            case measure => have := HG.out; omega
                            case rel => exact ⟨j + 1, rfl, by omega, by go_num, HJ3, HS⟩
                  · have hgt : ¬ mn ≤ ta - (j : Int) := by omega
                    have HQ := Lib.hid (show r = 0 by rw [HL5.out, HJ.out, show N - j = 0 by omega]; show sa * 0 = 0; omega)
                    go_wp2
                    go_ret
                    exact ⟨ret_int HQ.out.symm, HW.out⟩
            · have hn : (ta != tb) = true := bne_iff_ne.2 ht
              have HL4 := Lib.hid (HL3.out.trans (if_pos ht))
              have hsab : -1 ≤ sa ∧ sa ≤ 1 := by omega
              obtain ⟨hsa0, hsa1⟩ := hsab
              clear HL3
              go_upto_region 9 with fail
              go_cut [29] (fun u wx => u = .bool (decide (ta < tb)) ∧ Hid (LS w wx #[.bool ma, .slice A la ca, .int .i64 pa, .int .i64 ea] #[.bool mb, .slice B lb cb, .int .i64 pb, .int .i64 eb] A B da db))
              case first =>
                go_region_with (first | (go_at_call_of 29 (Value.agg #[Value.bool ma, Value.slice A la ca, Value.int IntKind.i64 pa, Value.int IntKind.i64 ea]); refine (htopa _ (by first | exact HR1.out | exact HR1.out.drew)).mono ?_; rintro e w2 ⟨rfl, hb⟩; have HS := Lib.hid (show LS w w2 #[.bool ma, .slice A la ca, .int .i64 pa, .int .i64 ea] #[.bool mb, .slice B lb cb, .int .i64 pb, .int .i64 eb] A B da db by first | exact HS.out.bel hb | exact HS.out.drew.bel hb); clear hb HR1 HR2 HW; clear x0 x1 x2 x3 y0 y1 y2 y3 u0 u1 u2 u3 v0 v1 v2 v3 xsz usz; obtain ⟨hx, hu, hr1, hr2, hbe⟩ := HS.out; obtain ⟨xsz, ⟨x0, x1, x2, x3⟩, y0, y1, y2, y3⟩ := hx.four; obtain ⟨usz, ⟨u0, u1, u2, u3⟩, v0, v1, v2, v3⟩ := hu.four; have HR1 := Lib.hid hr1; have HR2 := Lib.hid hr2; have HW := Lib.hid hbe; clear hx hu hr1 hr2 hbe) | (go_at_call_of 29 (Value.agg #[Value.bool mb, Value.slice B lb cb, Value.int IntKind.i64 pb, Value.int IntKind.i64 eb]); refine (htopb _ (by first | exact HR2.out | exact HR2.out.drew)).mono ?_; rintro e w2 ⟨rfl, hb⟩; have HS := Lib.hid (show LS w w2 #[.bool ma, .slice A la ca, .int .i64 pa, .int .i64 ea] #[.bool mb, .slice B lb cb, .int .i64 pb, .int .i64 eb] A B da db by first | exact HS.out.bel hb | exact HS.out.drew.bel hb); clear hb HR1 HR2 HW; clear x0 x1 x2 x3 y0 y1 y2 y3 u0 u1 u2 u3 v0 v1 v2 v3 xsz usz; obtain ⟨hx, hu, hr1, hr2, hbe⟩ := HS.out; obtain ⟨xsz, ⟨x0, x1, x2, x3⟩, y0, y1, y2, y3⟩ := hx.four; obtain ⟨usz, ⟨u0, u1, u2, u3⟩, v0, v1, v2, v3⟩ := hu.four; have HR1 := Lib.hid hr1; have HR2 := Lib.hid hr2; have HW := Lib.hid hbe; clear hx hu hr1 hr2 hbe))
                all_goals
                  go_wp2
                  go_meet
                  case rel => exact ⟨rfl, HS⟩
              case rest =>
                obtain ⟨rfl, HS9⟩ := hcut
                clear HS HR1 HR2 HW
                clear x0 x1 x2 x3 y0 y1 y2 y3 u0 u1 u2 u3 v0 v1 v2 v3 xsz usz
                have HS := HS9; clear HS9
                obtain ⟨hx, hu, hr1, hr2, hbe⟩ := HS.out; obtain ⟨xsz, ⟨x0, x1, x2, x3⟩, y0, y1, y2, y3⟩ := hx.four; obtain ⟨usz, ⟨u0, u1, u2, u3⟩, v0, v1, v2, v3⟩ := hu.four; have HR1 := Lib.hid hr1; have HR2 := Lib.hid hr2; have HW := Lib.hid hbe; clear hx hu hr1 hr2 hbe
                by_cases hlt : ta < tb
                · have HQ := Lib.hid (HL4.out.trans (if_pos hlt))
                  go_wp2
                  go_ret
                  exact ⟨ret_int HQ.out.symm, HW.out⟩
                · have HQ := Lib.hid (HL4.out.trans (if_neg hlt))
                  go_wp2
                  go_ret
                  exact ⟨ret_int HQ.out.symm, HW.out⟩

end Go.Proofs.YtdfamphnilelnaaDoor

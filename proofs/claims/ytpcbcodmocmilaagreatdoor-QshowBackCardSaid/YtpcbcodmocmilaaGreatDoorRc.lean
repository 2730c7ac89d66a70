/- ref17: Same (over sameSel) (printed by gen_same2.py). -/
import Derived.Deep.RegionHeld3
import Derived.Test.YtpcbcodmocmilaaGreatDoorRb
import Derived.Test.YtpcbcodmocmilaaGreatDoorG15
namespace Go.Proofs.YtpcbcodmocmilaaGreatDoor
open Go.RowKit

theorem RowG.cap {α : Type} {K : Nat → Prop} {k : Nat} {R : List Value → α → Prop} {w : World} {A : Option Addr} {n c : Nat} {l : List α} (h : RowG K k R w (.slice A n c) l) : l.length ≤ 9223372036854775807 := by
  obtain ⟨A', cap, e, h2, -⟩ := h
  omega
/-- A selector in a row. -/
theorem RowG.sel {K : Nat → Prop} {R : List Value → ExprT → Prop} {w : World} {A : Option Addr} {n c : Nat} {l : List SelT} (h : RowG K 9 (SelC K R w) w (.slice A n c) l) {i : Nat} {x : SelT} (hx : l[i]? = some x) :
    ∃ b off pv, A = some ⟨b, off, none⟩ ∧ b < w.heap.size ∧ (w.cell? ⟨b, off + i * 9, none⟩ = some (.int .i64 x.kind) ∧ w.cell? ⟨b, off + i * 9 + 1, none⟩ = some (.string (bs x.name)) ∧ w.cell? ⟨b, off + i * 9 + 2, none⟩ = some (.int .i64 x.index) ∧ w.cell? ⟨b, off + i * 9 + 3, none⟩ = some (.int .i64 x.fr) ∧ w.cell? ⟨b, off + i * 9 + 4, none⟩ = some (.int .i64 x.tt) ∧ w.cell? ⟨b, off + i * 9 + 5, none⟩ = some (.int .i64 x.step) ∧ w.cell? ⟨b, off + i * 9 + 6, none⟩ = some (.bool x.hf) ∧ w.cell? ⟨b, off + i * 9 + 7, none⟩ = some (.bool x.ht) ∧ w.cell? ⟨b, off + i * 9 + 8, none⟩ = some pv) ∧ PtrG K R w pv x.f := by
  obtain ⟨b, off, cs, rfl, hb, -, hc, pv, rfl, hp⟩ := h.at_ hx
  exact ⟨b, off, pv, rfl, hb, ⟨hc 0 _ rfl, hc 1 _ rfl, hc 2 _ rfl, hc 3 _ rfl, hc 4 _ rfl, hc 5 _ rfl, hc 6 _ rfl, hc 7 _ rfl, hc 8 _ rfl⟩, hp⟩
theorem RowG.selbel {K : Nat → Prop} {m : Nat} {w w' : World} {v : Value} {l : List SelT} (h : RowG K 9 (SelC K (ExR K m w) w) w v l) (hb : Bel w.heap.size w w') : RowG K 9 (SelC K (ExR K m w') w') w' v l :=
  h.keep (Kp.of_bel hb fun _ h _ => h) fun _ _ h => h.keep (Kp.of_bel hb fun _ h _ => h) fun _ _ h => ExR.keep (Kp.of_bel hb fun _ h _ => h) _ _ (Nat.le_refl _) _ _ h

/-- Same's state: its two boxes, and the rows that it compares. -/
structure SmW (w wr : World) (n : Nat) (K K' : Nat → Prop) (ab : Bool) (l : List SegT) (A B : Option Addr) (c r : Nat) : Prop where
  bel : Bel w.heap.size w wr
  u : Blk wr w.heap.size 37 #[.bool ab, .slice A l.length c]
  v : Blk wr (w.heap.size + 1) 37 #[.bool ab, .slice B l.length r]
  a : SegsG K (ExR K n wr) wr (.slice A l.length c) l
  b : SegsG K' (ExR K' n wr) wr (.slice B l.length r) l
theorem SmW.next {w wr w2 : World} {n : Nat} {K K' : Nat → Prop} {ab : Bool} {l : List SegT} {A B : Option Addr} {c r : Nat} (h : SmW w wr n K K' ab l A B c r) (hb : Bel wr.heap.size wr w2) : SmW w w2 n K K' ab l A B c r :=
  ⟨h.bel.next hb, h.u.bel hb h.u.lt, h.v.bel hb h.v.lt, SegsG.bel rfl h.a hb, SegsG.bel rfl h.b hb⟩

set_option maxRecDepth 100000 in
set_option maxHeartbeats 4000000 in
theorem same_any {K K' : Nat → Prop} {n : Nat} (hE : SEx n) (ab : Bool) (l : List SegT) (A B : Option Addr) (c r : Nat) (w : World) (h1 : SegsG K (ExR K n w) w (.slice A l.length c) l) (h2 : SegsG K' (ExR K' n w) w (.slice B l.length r) l) :
    Calls Tryz.prog 19 #[.agg #[.bool ab, .slice A l.length c], .agg #[.bool ab, .slice B l.length r]] w fun e w' => e = .returned (.bool true) ∧ Bel w.heap.size w w' := by
  have hcap := h1.cap
  have hb0 : Bel w.heap.size w ((w.alloc (.cells #[.bool ab, .slice A l.length c] 37)).alloc (.cells #[.bool ab, .slice B l.length r] 37)) := ((Bel.refl _ _).alloc (Nat.le_refl _) _).alloc (by simp) _
  have HS0 := Lib.hid (show SmW w ((w.alloc (.cells #[.bool ab, .slice A l.length c] 37)).alloc (.cells #[.bool ab, .slice B l.length r] 37)) n K K' ab l A B c r from ⟨hb0, (Blk.new w 37 #[.bool ab, .slice A l.length c]).alloc _, Blk.new1 w _ 37 #[.bool ab, .slice B l.length r], SegsG.bel rfl h1 hb0, SegsG.bel rfl h2 hb0⟩)
  have HE := Lib.hid (fun x pv pv' w a b => sameSel_any (K := K) (K' := K') hE x pv pv' w a b)
  clear h1 h2 hb0 hE
  go_enter Tryz.func19, Tryz.ntmps19
  go_wp2
  go_loopg [5] l.length (fun kk v wr => ∃ k : Nat, kk = l.length - k ∧ k ≤ l.length ∧ v = .int .i64 k ∧ Hid (SmW w wr n K K' ab l A B c r))
  case atStart => exact ⟨0, by omega, Nat.zero_le _, rfl, HS0⟩
  case round =>
    clear HS0
    obtain ⟨k, hgk, hk, rfl, HS⟩ := hrel
    have HGK := Lib.hid hgk
    clear hgk
    obtain ⟨uz, ⟨u0, u1⟩, ⟨uf0, uf1⟩⟩ := HS.out.u.c2
    obtain ⟨vz, ⟨v0, v1⟩, ⟨vf0, vf1⟩⟩ := HS.out.v.c2
    rcases Nat.lt_or_ge k l.length with hlt | hge
    · obtain ⟨x, hx⟩ : ∃ x, l[k]? = some x := ⟨_, List.getElem?_eq_getElem hlt⟩
      obtain ⟨b1, o1, A2, c2, rfl, hb1, p0, p1, hrow1⟩ := HS.out.a.at_ hx
      obtain ⟨b2, o2, B2, r2, rfl, hb2, z0, z1, hrow2⟩ := HS.out.b.at_ hx
      have hlt2 : (k : Int) < (l.length : Int) := by omega
      have hcs := hrow1.cap
      have HR1 := Lib.hid hrow1
      have HR2 := Lib.hid hrow2
      clear hrow1 hrow2 hx
      go_upto_region 6 with fail
      go_cut [6, 7] (fun v6 v7 wx => ∃ s6 s7 : Nat, v6 = .pointer (some ⟨s6, 0, none⟩) ∧ v7 = .pointer (some ⟨s7, 0, none⟩) ∧ Hid (SmW w wx n K K' ab l (some ⟨b1, o1, none⟩) (some ⟨b2, o2, none⟩) c r) ∧ Hid (Blk wx s6 44 #[.bool x.deep, .slice A2 x.sels.length c2]) ∧ Hid (Blk wx s7 44 #[.bool x.deep, .slice B2 x.sels.length r2]) ∧ Hid (RowG K 9 (SelC K (ExR K n wx) wx) wx (.slice A2 x.sels.length c2) x.sels) ∧ Hid (RowG K' 9 (SelC K' (ExR K' n wx) wx) wx (.slice B2 x.sels.length r2) x.sels))
      case first =>
        have hbA : ∀ o1 o2 : Obj, Bel wr.heap.size wr ((wr.alloc o1).alloc o2).drew := fun o1 o2 => (((Bel.refl _ _).alloc (Nat.le_refl _) _).alloc (by simp) _).drew
        go_region
        all_goals
          go_wp2
          go_meet
          case rel => first
            | exact ⟨wr.heap.size, wr.heap.size + 1, rfl, rfl, Lib.hid (HS.out.next (hbA _ _)), Lib.hid ((Blk.new wr 44 #[.bool x.deep, .slice A2 x.sels.length c2]).alloc _), Lib.hid (Blk.new1 wr _ 44 #[.bool x.deep, .slice B2 x.sels.length r2]), Lib.hid (HR1.out.selbel (hbA _ _)), Lib.hid (HR2.out.selbel (hbA _ _))⟩
            | exact ⟨wr.heap.size + 1, wr.heap.size, rfl, rfl, Lib.hid (HS.out.next (hbA _ _)), Lib.hid (Blk.new1 wr _ 44 #[.bool x.deep, .slice A2 x.sels.length c2]), Lib.hid ((Blk.new wr 44 #[.bool x.deep, .slice B2 x.sels.length r2]).alloc _), Lib.hid (HR1.out.selbel (hbA _ _)), Lib.hid (HR2.out.selbel (hbA _ _))⟩
      case rest =>
      obtain ⟨s6, s7, rfl, rfl, HS2, H6, H7, HQ1, HQ2⟩ := hcut
      clear HS HR1 HR2 uz u0 u1 uf0 uf1 vz v0 v1 vf0 vf1 p0 p1 z0 z1
      obtain ⟨xz, ⟨x0, x1⟩, ⟨xf0, xf1⟩⟩ := H6.out.c2
      obtain ⟨yz, ⟨y0, y1⟩, ⟨yf0, yf1⟩⟩ := H7.out.c2
      go_wp2
      go_loopg [8] x.sels.length (fun kk v wi => ∃ j : Nat, kk = x.sels.length - j ∧ j ≤ x.sels.length ∧ v = .int .i64 j ∧ Hid (SmW w wi n K K' ab l (some ⟨b1, o1, none⟩) (some ⟨b2, o2, none⟩) c r) ∧ Hid (Blk wi s6 44 #[.bool x.deep, .slice A2 x.sels.length c2]) ∧ Hid (Blk wi s7 44 #[.bool x.deep, .slice B2 x.sels.length r2]) ∧ Hid (RowG K 9 (SelC K (ExR K n wi) wi) wi (.slice A2 x.sels.length c2) x.sels) ∧ Hid (RowG K' 9 (SelC K' (ExR K' n wi) wi) wi (.slice B2 x.sels.length r2) x.sels))
      case atStart => exact ⟨0, by omega, Nat.zero_le _, rfl, HS2, H6, H7, HQ1, HQ2⟩
      case round =>
        clear HS2 H6 H7 HQ1 HQ2 xz x0 x1 xf0 xf1 yz y0 y1 yf0 yf1
        obtain ⟨j, hgj, hj, rfl, HS3, H63, H73, HQ13, HQ23⟩ := hrel
        have HGJ := Lib.hid hgj
        clear hgj
        obtain ⟨xz, ⟨x0, x1⟩, ⟨xf0, xf1⟩⟩ := H63.out.c2
        obtain ⟨yz, ⟨y0, y1⟩, ⟨yf0, yf1⟩⟩ := H73.out.c2
        rcases Nat.lt_or_ge j x.sels.length with hlj | hgej
        · obtain ⟨y, hy⟩ : ∃ y, x.sels[j]? = some y := ⟨_, List.getElem?_eq_getElem hlj⟩
          obtain ⟨bx, ox, pv, rfl, hbx, hc1, hp1⟩ := HQ13.out.sel hy
          obtain ⟨by_, oy, pw, rfl, hby, hc2, hp2⟩ := HQ23.out.sel hy
          have hlj2 : (j : Int) < (x.sels.length : Int) := by omega
          have kd := Kp.of_bel ((Bel.refl wr.heap.size wr).drew) (K := K) (K' := K) fun _ h _ => h
          have kd' := Kp.of_bel ((Bel.refl wr.heap.size wr).drew) (K := K') (K' := K') fun _ h _ => h
          have HC := Lib.hid (HE.out y pv pw wr.drew (hp1.keep kd fun _ _ h => ExR.keep kd _ _ (Nat.le_refl _) _ _ h) (hp2.keep kd' fun _ _ h => ExR.keep kd' _ _ (Nat.le_refl _) _ _ h))
          have HSS := Lib.hid (show wr.drew.cell? ⟨s6, 1, none⟩ = some (.slice (some ⟨bx, ox, none⟩) x.sels.length c2) ∧ wr.drew.cell? ⟨s7, 1, none⟩ = some (.slice (some ⟨by_, oy, none⟩) x.sels.length r2) ∧ (wr.drew.cell? ⟨bx, ox + j * 9, none⟩ = some (.int .i64 y.kind) ∧ wr.drew.cell? ⟨bx, ox + j * 9 + 1, none⟩ = some (.string (bs y.name)) ∧ wr.drew.cell? ⟨bx, ox + j * 9 + 2, none⟩ = some (.int .i64 y.index) ∧ wr.drew.cell? ⟨bx, ox + j * 9 + 3, none⟩ = some (.int .i64 y.fr) ∧ wr.drew.cell? ⟨bx, ox + j * 9 + 4, none⟩ = some (.int .i64 y.tt) ∧ wr.drew.cell? ⟨bx, ox + j * 9 + 5, none⟩ = some (.int .i64 y.step) ∧ wr.drew.cell? ⟨bx, ox + j * 9 + 6, none⟩ = some (.bool y.hf) ∧ wr.drew.cell? ⟨bx, ox + j * 9 + 7, none⟩ = some (.bool y.ht) ∧ wr.drew.cell? ⟨bx, ox + j * 9 + 8, none⟩ = some (pv)) ∧ (wr.drew.cell? ⟨by_, oy + j * 9, none⟩ = some (.int .i64 y.kind) ∧ wr.drew.cell? ⟨by_, oy + j * 9 + 1, none⟩ = some (.string (bs y.name)) ∧ wr.drew.cell? ⟨by_, oy + j * 9 + 2, none⟩ = some (.int .i64 y.index) ∧ wr.drew.cell? ⟨by_, oy + j * 9 + 3, none⟩ = some (.int .i64 y.fr) ∧ wr.drew.cell? ⟨by_, oy + j * 9 + 4, none⟩ = some (.int .i64 y.tt) ∧ wr.drew.cell? ⟨by_, oy + j * 9 + 5, none⟩ = some (.int .i64 y.step) ∧ wr.drew.cell? ⟨by_, oy + j * 9 + 6, none⟩ = some (.bool y.hf) ∧ wr.drew.cell? ⟨by_, oy + j * 9 + 7, none⟩ = some (.bool y.ht) ∧ wr.drew.cell? ⟨by_, oy + j * 9 + 8, none⟩ = some (pw)) from ⟨x1, y1, hc1, hc2⟩)
          clear hc1 hc2 hp1 hp2 kd kd' hy hbx hby
          go_upto_region 12 with fail
          go_region_held3 (fun w' => w'.cell? ⟨s6, 1, none⟩ = some (.slice (some ⟨bx, ox, none⟩) x.sels.length c2) ∧ w'.cell? ⟨s7, 1, none⟩ = some (.slice (some ⟨by_, oy, none⟩) x.sels.length r2) ∧ (w'.cell? ⟨bx, ox + j * 9, none⟩ = some (.int .i64 y.kind) ∧ w'.cell? ⟨bx, ox + j * 9 + 1, none⟩ = some (.string (bs y.name)) ∧ w'.cell? ⟨bx, ox + j * 9 + 2, none⟩ = some (.int .i64 y.index) ∧ w'.cell? ⟨bx, ox + j * 9 + 3, none⟩ = some (.int .i64 y.fr) ∧ w'.cell? ⟨bx, ox + j * 9 + 4, none⟩ = some (.int .i64 y.tt) ∧ w'.cell? ⟨bx, ox + j * 9 + 5, none⟩ = some (.int .i64 y.step) ∧ w'.cell? ⟨bx, ox + j * 9 + 6, none⟩ = some (.bool y.hf) ∧ w'.cell? ⟨bx, ox + j * 9 + 7, none⟩ = some (.bool y.ht) ∧ w'.cell? ⟨bx, ox + j * 9 + 8, none⟩ = some (pv)) ∧ (w'.cell? ⟨by_, oy + j * 9, none⟩ = some (.int .i64 y.kind) ∧ w'.cell? ⟨by_, oy + j * 9 + 1, none⟩ = some (.string (bs y.name)) ∧ w'.cell? ⟨by_, oy + j * 9 + 2, none⟩ = some (.int .i64 y.index) ∧ w'.cell? ⟨by_, oy + j * 9 + 3, none⟩ = some (.int .i64 y.fr) ∧ w'.cell? ⟨by_, oy + j * 9 + 4, none⟩ = some (.int .i64 y.tt) ∧ w'.cell? ⟨by_, oy + j * 9 + 5, none⟩ = some (.int .i64 y.step) ∧ w'.cell? ⟨by_, oy + j * 9 + 6, none⟩ = some (.bool y.hf) ∧ w'.cell? ⟨by_, oy + j * 9 + 7, none⟩ = some (.bool y.ht) ∧ w'.cell? ⟨by_, oy + j * 9 + 8, none⟩ = some (pw))) (first | (with_reducible exact HSS.out) | (with_reducible exact HSS1.out)) (first | (go_at_call 36; refine HC.out.mono ?_; rintro e w9 ⟨rfl, hb⟩; have HB9 := Lib.hid (show Bel wr.heap.size wr w9 from (Bel.refl wr.heap.size wr).drew.trans hb); have HSS1 := Lib.hid (show w9.cell? ⟨s6, 1, none⟩ = some (.slice (some ⟨bx, ox, none⟩) x.sels.length c2) ∧ w9.cell? ⟨s7, 1, none⟩ = some (.slice (some ⟨by_, oy, none⟩) x.sels.length r2) ∧ (w9.cell? ⟨bx, ox + j * 9, none⟩ = some (.int .i64 y.kind) ∧ w9.cell? ⟨bx, ox + j * 9 + 1, none⟩ = some (.string (bs y.name)) ∧ w9.cell? ⟨bx, ox + j * 9 + 2, none⟩ = some (.int .i64 y.index) ∧ w9.cell? ⟨bx, ox + j * 9 + 3, none⟩ = some (.int .i64 y.fr) ∧ w9.cell? ⟨bx, ox + j * 9 + 4, none⟩ = some (.int .i64 y.tt) ∧ w9.cell? ⟨bx, ox + j * 9 + 5, none⟩ = some (.int .i64 y.step) ∧ w9.cell? ⟨bx, ox + j * 9 + 6, none⟩ = some (.bool y.hf) ∧ w9.cell? ⟨bx, ox + j * 9 + 7, none⟩ = some (.bool y.ht) ∧ w9.cell? ⟨bx, ox + j * 9 + 8, none⟩ = some (pv)) ∧ (w9.cell? ⟨by_, oy + j * 9, none⟩ = some (.int .i64 y.kind) ∧ w9.cell? ⟨by_, oy + j * 9 + 1, none⟩ = some (.string (bs y.name)) ∧ w9.cell? ⟨by_, oy + j * 9 + 2, none⟩ = some (.int .i64 y.index) ∧ w9.cell? ⟨by_, oy + j * 9 + 3, none⟩ = some (.int .i64 y.fr) ∧ w9.cell? ⟨by_, oy + j * 9 + 4, none⟩ = some (.int .i64 y.tt) ∧ w9.cell? ⟨by_, oy + j * 9 + 5, none⟩ = some (.int .i64 y.step) ∧ w9.cell? ⟨by_, oy + j * 9 + 6, none⟩ = some (.bool y.hf) ∧ w9.cell? ⟨by_, oy + j * 9 + 7, none⟩ = some (.bool y.ht) ∧ w9.cell? ⟨by_, oy + j * 9 + 8, none⟩ = some (pw)) by obtain ⟨a, b, ⟨c0, c1, c2, c3, c4, c5, c6, c7, c8⟩, ⟨d0, d1, d2, d3, d4, d5, d6, d7, d8⟩⟩ := HSS.out; exact ⟨hb.some a, hb.some b, ⟨hb.some c0, hb.some c1, hb.some c2, hb.some c3, hb.some c4, hb.some c5, hb.some c6, hb.some c7, hb.some c8⟩, ⟨hb.some d0, hb.some d1, hb.some d2, hb.some d3, hb.some d4, hb.some d5, hb.some d6, hb.some d7, hb.some d8⟩⟩); clear hb))
          all_goals
            go_wp2
            go_roundg (x.sels.length - (j + 1))
            case measure => have := HGJ.out; omega
            case rel => exact ⟨j + 1, rfl, hlj, by simp, Lib.hid (HS3.out.next HB9.out), Lib.hid (H63.out.bel HB9.out H63.out.lt), Lib.hid (H73.out.bel HB9.out H73.out.lt), Lib.hid (HQ13.out.selbel HB9.out), Lib.hid (HQ23.out.selbel HB9.out)⟩
        · have hge2 : ¬ (j : Int) < (x.sels.length : Int) := by omega
          go_wp2
          go_roundg (l.length - (k + 1))
          case measure => have := HGK.out; omega
          case rel => exact ⟨k + 1, rfl, hlt, by simp, HS3⟩
    · have hge2 : ¬ (k : Int) < (l.length : Int) := by omega
      go_wp2
      go_ret
      exact ⟨rfl, HS.out.bel⟩

end Go.Proofs.YtpcbcodmocmilaaGreatDoor

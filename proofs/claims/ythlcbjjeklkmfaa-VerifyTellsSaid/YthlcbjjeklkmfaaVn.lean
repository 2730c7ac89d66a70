/- VerifyMore: awake, walk. -/
import Derived.Test.YthlcbjjeklkmfaaVr
namespace Go.Proofs.Ythlcbjjeklkmfaa
open Go.RowKit

theorem CM.nil (w : World) : CM w none none none none ⟨[], [], [], []⟩ := ⟨.inl rfl, .inl rfl, .inl rfl, .inl rfl⟩
def cdW : CodeD := ⟨[⟨true, 0, 0⟩], [], [], []⟩
def cdZ : CodeD := ⟨[], [], [], []⟩
theorem cdW_sound : soundL cdW = true := by decide
theorem cdZ_sound : soundL cdZ = false := by decide

set_option maxRecDepth 100000 in
set_option maxHeartbeats 1000000 in
theorem awake_any (w : World) : Calls Try.prog 5 #[] w fun e w' => e = .returned (.bool true) ∧ Bel w.heap.size w w' := by
  have hs1 : ∀ wz, Blk wz w.heap.size 33 #[.bool true, .int .i64 0, .int .i64 0] → Calls Try.prog 7 #[.agg #[.slice (some ⟨w.heap.size, 0, none⟩) 1 1, .slice none 0 0, .slice none 0 0, .slice none 0 0]] wz fun e w' => e = .returned (.bool true) ∧ Bel wz.heap.size wz w' := fun wz hz => by
    have h := psound_any (some ⟨w.heap.size, 0, none⟩) none none none 1 0 0 0 cdW wz ⟨.inr ⟨_, 0, rfl, hz.lt, fun i x hx => by
      match i, hx with
      | 0, hx => injection hx with hx; subst hx; exact ⟨hz.cell 0, hz.cell 1, hz.cell 2⟩
      | i + 1, hx => simp [cdW] at hx⟩, .inl rfl, .inl rfl, .inl rfl⟩ (by simp [cdW]) (by simp [cdW]) (by simp [cdW]) (by simp [cdW]) (by simp [cdW]) (by simp [cdW])
    rw [cdW_sound] at h
    exact h
  have hs2 : ∀ wz, Calls Try.prog 7 #[.agg #[.slice none 0 0, .slice none 0 0, .slice none 0 0, .slice none 0 0]] wz fun e w' => e = .returned (.bool false) ∧ Bel wz.heap.size wz w' := fun wz => by
    have h := psound_any none none none none 0 0 0 0 cdZ wz (CM.nil wz) (by simp [cdZ]) (by simp [cdZ]) (by simp [cdZ]) (by simp [cdZ]) (by simp [cdZ]) (by simp [cdZ])
    rw [cdZ_sound] at h
    exact h
  have HN := Lib.hid (Blk.new w 33 #[.bool true, .int .i64 0, .int .i64 0])
  have HB := Lib.hid (show Bel w.heap.size w (w.alloc (.cells #[.bool true, .int .i64 0, .int .i64 0] 33)) from (Bel.refl _ _).alloc (Nat.le_refl _) _)
  go_enter Try.func5, Try.ntmps5
  go_wp2_with (first
    | (go_at_call 7; (with_reducible refine (hs1 _ HN.out).mono ?_); rintro e w1 ⟨rfl, hb⟩; have HB1 := Lib.hid (HB.out.next hb); clear hb)
    | (go_at_call 7; (with_reducible refine (hs2 _).mono ?_); rintro e w2 ⟨rfl, hb⟩; have HB2 := Lib.hid (HB1.out.next hb); clear hb))
  go_ret
  exact ⟨rfl, HB2.out⟩


section
variable {P : Program} (w : World)
theorem wpList_run {ops : Array Oper} {rest : List Oper} {o : Oper} {a : Act} {Q : Exit → Act → World → Prop} (hgd : o.guard = none) (t : TypeId) (n : Nat)
    (ho : o.op = .buildSlice t n #[]) (v : Value) (w' : World) (hr : (Instr.buildSlice t n #[]).run P w = .ok v w') (h : wpList P ops Q rest (a.put o.dst v) w') : wpList P ops Q (o :: rest) a w :=
  wpList_plain hgd fun K hK => by
    unfold Oper.wp execOp
    simp only [ho, Sem.run_bind, Sem.run_pure, Result.andThen_ok, List.map_toArray, List.map_nil, hr]
    exact hK _ _ h
end
theorem info_ins : (Try.prog.info? 31).map (fun i => (i.zero, i.size, i.bytes)) = some (some (.agg #[.int .i64 0, .int .i64 0, .int .i64 0, .int .i64 0, .int .i64 0, .string ByteArray.empty, .int .i64 0]), 7, 64) := by kernel_rfl
theorem info_path : (Try.prog.info? 33).map (fun i => (i.zero, i.size, i.bytes)) = some (some (.agg #[.bool false, .int .i64 0, .int .i64 0]), 3, 24) := by kernel_rfl
theorem lit_ins (w : World) : (Instr.buildSlice 25 0 #[]).run Try.prog w = .ok (.slice (some ⟨w.heap.size, 0, none⟩) 0 0) (w.alloc (.cells #[] 31)) := by kernel_rfl
theorem lit_path (w : World) : (Instr.buildSlice 22 0 #[]).run Try.prog w = .ok (.slice (some ⟨w.heap.size, 0, none⟩) 0 0) (w.alloc (.cells #[] 33)) := by kernel_rfl
def LIT2 : List InsD := [⟨5, 0, 0, 0, 0, ⟨#[]⟩, 0⟩, ⟨99, 0, 0, 0, 0, ⟨#[]⟩, 0⟩]
def LIT1 : List PathD := [⟨true, 0, 0⟩]
theorem FSt.bel {w wr w2 : World} {cv : Array Value} {A1 A2 A3 A4 : Option Addr} {cd : CodeD} (h : FSt w wr cv A1 A2 A3 A4 cd) (hb : Bel wr.heap.size wr w2) : FSt w w2 cv A1 A2 A3 A4 cd :=
  ⟨h.1.bel hb h.1.lt, h.2.1.bel hb, h.2.2.next hb⟩

set_option maxRecDepth 100000 in
set_option maxHeartbeats 2000000 in
theorem more_any (A1 A2 A3 A4 : Option Addr) (c1 c2 c3 c4 : Nat) (cd : CodeD) (w : World) (h : CM w A1 A2 A3 A4 cd) (l1 : cd.ps.length ≤ maxLen) (l2 : cd.gs.length ≤ maxLen) (l3 : cd.ss.length ≤ maxLen) (l4 : cd.is.length ≤ maxLen) (lc2 : cd.gs.length ≤ c2) (lc3 : cd.ss.length ≤ c3) :
    Calls Try.prog 3 #[.agg #[.slice A1 cd.ps.length c1, .slice A2 cd.gs.length c2, .slice A3 cd.ss.length c3, .slice A4 cd.is.length c4]] w fun e w' => e = .returned (.bool true) ∧ Bel w.heap.size w w' := by
  have HFS0 := Lib.hid (show FSt w (w.alloc (.cells #[.slice A1 cd.ps.length c1, .slice A2 cd.gs.length c2, .slice A3 cd.ss.length c3, .slice A4 cd.is.length c4] 27)) #[.slice A1 cd.ps.length c1, .slice A2 cd.gs.length c2, .slice A3 cd.ss.length c3, .slice A4 cd.is.length c4] A1 A2 A3 A4 cd from ⟨Blk.new _ _ _, h.bel ((Bel.refl _ _).alloc (Nat.le_refl _) _), (Bel.refl _ _).alloc (Nat.le_refl _) _⟩)
  have hfew := fun w h => few_any A1 A2 A3 A4 c1 c2 c3 c4 cd w h l1 l2 l3 l4
  unfold FewP at hfew
  clear h l1 l2 l3 l4
  go_enter Try.func3, Try.ntmps3
  go_wp2_with (go_at_call 5; refine (awake_any _).mono ?_; rintro e w1 ⟨rfl, hb⟩; have HFS1 := Lib.hid (HFS0.out.bel hb); clear hb; obtain ⟨xsz, ⟨x0, x1, x2, x3⟩, y0, y1, y2, y3⟩ := HFS1.out.1.four)
  refine (hfew _ HFS1.out.2.1).mono ?_
  rintro e w2 ⟨b, rfl, hn, hb⟩
  have HFS2 := Lib.hid (HFS1.out.bel hb)
  clear hb HFS1 xsz x0 x1 x2 x3 y0 y1 y2 y3
  simp only
  cases b with
  | false =>
    clear hn
    go_wp2_with (go_at_call 5; refine (awake_any _).mono ?_; rintro e w3 ⟨rfl, hb⟩; have HFS3 := Lib.hid (HFS2.out.bel hb); clear hb)
    go_ret
    exact ⟨rfl, HFS3.out.2.2⟩
  | true =>
    obtain ⟨l1, l2, l3, l4⟩ := hn rfl
    clear hn
    have hs := fun w h => psound_any A1 A2 A3 A4 c1 c2 c3 c4 cd w h (by omega) (by omega) (by omega) (by omega) lc2 lc3
    obtain ⟨s, hs0⟩ : ∃ s, soundL cd = s := ⟨_, rfl⟩
    rw [hs0] at hs
    have HSD := Lib.hid hs0
    clear hs0
    obtain ⟨xsz, ⟨x0, x1, x2, x3⟩, y0, y1, y2, y3⟩ := HFS2.out.1.four
    go_upto_region 5 with (go_at_call 7; refine (hs _ HFS2.out.2.1).mono ?_; rintro e w3 ⟨rfl, hb⟩; have HFS3 := Lib.hid (HFS2.out.bel hb); clear hb xsz x0 x1 x2 x3 y0 y1 y2 y3; obtain ⟨xsz, ⟨x0, x1, x2, x3⟩, y0, y1, y2, y3⟩ := HFS3.out.1.four)
    -- APPENDS
    obtain ⟨i0, hi, hz0, hz1, hz2⟩ := info_parts info_ins
    obtain ⟨j0, hj, hy0, hy1, hy2⟩ := info_parts info_path
    have HGS := Lib.hid HFS3.out.1.lt
    have HFS5 := Lib.hid (show FSt w (w3.alloc (.cells #[.slice A1 cd.ps.length c1, .slice A2 cd.gs.length c2, .slice A3 cd.ss.length c3, .slice A4 cd.is.length c4] 27)) #[.slice A1 cd.ps.length c1, .slice A2 cd.gs.length c2, .slice A3 cd.ss.length c3, .slice A4 cd.is.length c4] A1 A2 A3 A4 cd from HFS3.out.bel ((Bel.refl _ _).alloc (Nat.le_refl _) _))
    have HD5 := Lib.hid (Blk.new w3 27 #[.slice A1 cd.ps.length c1, .slice A2 cd.gs.length c2, .slice A3 cd.ss.length c3, .slice A4 cd.is.length c4])
    obtain ⟨g, hg⟩ : ∃ g, w3.heap.size = g := ⟨_, rfl⟩
    obtain ⟨w5, hw5⟩ : ∃ w5, w3.alloc (.cells #[.slice A1 cd.ps.length c1, .slice A2 cd.gs.length c2, .slice A3 cd.ss.length c3, .slice A4 cd.is.length c4] 27) = w5 := ⟨_, rfl⟩
    have HB35 := Lib.hid (show Bel w3.heap.size w3 w5 from by rw [← hw5]; exact (Bel.refl _ _).alloc (Nat.le_refl _) _)
    have HG5 := Lib.hid (show g < w5.heap.size from by rw [← hw5, ← hg]; simp)
    have HG := Lib.hid hg
    rw [hw5] at HFS5 HD5 ⊢
    rw [hg] at HD5 HB35 HGS ⊢
    clear hw5 hg xsz x0 x1 x2 x3 y0 y1 y2 y3 HFS2
    obtain ⟨xsz, ⟨x0, x1, x2, x3⟩, y0, y1, y2, y3⟩ := HFS5.out.1.four
    have HO5 := Lib.hid (World.ownsRow_lit (base := w5.heap.size) (e := 31) (size := 7) w5 #[] 0 (Nat.le_refl _) (by unfold maxLen; omega) (by simp))
    have HR5 := Lib.hid ((reads_ins HFS5.out.2.1).alloc (Nat.le_refl _) (.cells #[] 31))
    go_upto_region 6 with (first
      | (refine wpList_run _ rfl _ _ rfl _ _ (lit_ins _) ?_)
      | (at_builtin; refine wpList_append_any _ rfl (.tmp 17) (.tmp 19) 25 rfl w5.heap.size 31 i0 _ 7 64 Try.underlying25 hi hz0 hz1 hz2 rfl (by decide) (.slice (some ⟨w5.heap.size, 0, none⟩) 0 0) 0 [] rfl HO5.out _ A4 cd.is.length c4 (cd.is.flatMap insC) rfl HR5.out (ins_one _) (by unfold maxLen; omega) (by omega) (by simp) ?_; intro v4 w4 hown4 hg4 hat4; have HO6 := Lib.hid (World.ownsRow.alloc hown4 (.cells (LIT2.flatMap insC).toArray 31)); have HB4 := Lib.hid (show Bel w5.heap.size w5 w4 from ((Bel.refl _ _).alloc (Nat.le_refl _) _).trans (grown_bel hg4 (by simp) (fun k hk => (World.ownsRow.lt HO5.out k hk).1))); clear hown4 hg4 hat4)
      | (at_builtin; refine wpList_append_any _ rfl (.tmp 20) (.tmp 23) 25 rfl w5.heap.size 31 i0 _ 7 64 Try.underlying25 hi hz0 hz1 hz2 rfl (by decide) _ _ _ rfl HO6.out _ (some ⟨w4.heap.size, 0, none⟩) 2 2 (LIT2.flatMap insC) rfl (reads_new w4 31 7 2 (LIT2.flatMap insC) rfl) (ins_one _) (by unfold maxLen; omega) (by omega) (by have := HB4.out.size; simp; omega) ?_; intro v6 w6 hown6 hg6 hat6; obtain ⟨A6, cap6, rfl, hc6, hm6⟩ := ins_own (l := cd.is ++ LIT2) (by simpa using hown6) (by simp [LIT2]); have HM6 := Lib.hid hm6; have HB6 := Lib.hid ((HB4.out.alloc HB4.out.size _).trans (grown_bel hg6 (by have := HB4.out.size; simp; omega) (fun k hk => (World.ownsRow.lt HO6.out k hk).1))); clear hown6 hg6 hat6 hm6; have HD6 := Lib.hid (HD5.out.bel HB6.out HD5.out.lt); obtain ⟨dsz, ⟨d0, d1, d2, d3⟩, q0, q1, q2, q3⟩ := HD6.out.four))
    -- SECOND
    obtain ⟨w7, hw7⟩ : ∃ w7, w6.setCell ⟨g, 3, none⟩ (.slice A6 (cd.is.length + LIT2.length) cap6) = w7 := ⟨_, rfl⟩
    have HB7 := Lib.hid (show Bel g w3 w7 from by rw [← hw7]; exact (HB35.out.trans (HB6.out.mono (by have := HG5.out; omega))).setCell (Nat.le_refl _) _)
    have HF7 := Lib.hid (HFS3.out.bel (by rw [HG.out]; exact HB7.out))
    have HD7 := Lib.hid (show Blk w7 g 27 #[.slice A1 cd.ps.length c1, .slice A2 cd.gs.length c2, .slice A3 cd.ss.length c3, .slice A6 (cd.is.length + LIT2.length) cap6] from by rw [← hw7]; exact HD6.out.set_ 3 _)
    have HM7 := Lib.hid (show CM w7 A1 A2 A3 A6 (withIs cd (cd.is ++ LIT2)) from ⟨HF7.out.2.1.p, HF7.out.2.1.g, HF7.out.2.1.s, HM6.out.imp id (by
      rintro ⟨b, off, e, hbs, hb, hc⟩
      have hk : ∀ o, w7.cell? ⟨b, o, none⟩ = w6.cell? ⟨b, o, none⟩ := fun o => by rw [← hw7]; exact World.cell?_setCell_other w6 _ _ _ (by intro e; injection e with e1; have := HG5.out; omega)
      refine ⟨b, off, e, by rw [← hw7]; simpa using hb, fun i x hx => ?_⟩
      simp only [hk]; exact hc i x hx)⟩)
    rw [hw7]
    clear hw7 HD6 HM6 HB6 HB4 HO6 HO5 HR5 HD5 HFS5 dsz d0 d1 d2 d3 q0 q1 q2 q3 xsz x0 x1 x2 x3 y0 y1 y2 y3 HB7 HFS3 HB35
    obtain ⟨xsz, ⟨x0, x1, x2, x3⟩, y0, y1, y2, y3⟩ := HF7.out.1.four
    go_upto_region 7 with fail
    clear xsz x0 x1 x2 x3 y0 y1 y2 y3
    have HB78 := Lib.hid (show Bel w7.heap.size w7 (w7.alloc (.cells #[.slice A1 cd.ps.length c1, .slice A2 cd.gs.length c2, .slice A3 cd.ss.length c3, .slice A4 cd.is.length c4] 27)) from (Bel.refl _ _).alloc (Nat.le_refl _) _)
    have HE8 := Lib.hid (Blk.new w7 27 #[.slice A1 cd.ps.length c1, .slice A2 cd.gs.length c2, .slice A3 cd.ss.length c3, .slice A4 cd.is.length c4])
    obtain ⟨w8, hw8⟩ : ∃ w8, w7.alloc (.cells #[.slice A1 cd.ps.length c1, .slice A2 cd.gs.length c2, .slice A3 cd.ss.length c3, .slice A4 cd.is.length c4] 27) = w8 := ⟨_, rfl⟩
    rw [hw8] at HB78 HE8 ⊢
    clear hw8
    have HF8 := Lib.hid (HF7.out.bel HB78.out)
    obtain ⟨xsz, ⟨x0, x1, x2, x3⟩, y0, y1, y2, y3⟩ := HF8.out.1.four
    have HO8 := Lib.hid (World.ownsRow_lit (base := w8.heap.size) (e := 33) (size := 3) w8 #[] 0 (Nat.le_refl _) (by unfold maxLen; omega) (by simp))
    have HR8 := Lib.hid ((reads_path HF8.out.2.1).alloc (Nat.le_refl _) (.cells #[] 33))
    go_upto_region 8 with (first
      | (refine wpList_run _ rfl _ _ rfl _ _ (lit_path _) ?_)
      | (at_builtin; refine wpList_append_any _ rfl (.tmp 27) (.tmp 29) 22 rfl w8.heap.size 33 j0 _ 3 24 Try.underlying22 hj hy0 hy1 hy2 rfl (by decide) (.slice (some ⟨w8.heap.size, 0, none⟩) 0 0) 0 [] rfl HO8.out _ A1 cd.ps.length c1 (cd.ps.flatMap pathC) rfl HR8.out (path_one _) (by unfold maxLen; omega) (by omega) (by simp) ?_; intro v4 w9 hown4 hg4 hat4; have HO9 := Lib.hid (World.ownsRow.alloc hown4 (.cells (LIT1.flatMap pathC).toArray 33)); have HB9 := Lib.hid (show Bel w8.heap.size w8 w9 from ((Bel.refl _ _).alloc (Nat.le_refl _) _).trans (grown_bel hg4 (by simp) (fun k hk => (World.ownsRow.lt HO8.out k hk).1))); clear hown4 hg4 hat4)
      | (at_builtin; refine wpList_append_any _ rfl (.tmp 30) (.tmp 32) 22 rfl w8.heap.size 33 j0 _ 3 24 Try.underlying22 hj hy0 hy1 hy2 rfl (by decide) _ _ _ rfl HO9.out _ (some ⟨w9.heap.size, 0, none⟩) 1 1 (LIT1.flatMap pathC) rfl (reads_new w9 33 3 1 (LIT1.flatMap pathC) rfl) (path_one _) (by unfold maxLen; omega) (by omega) (by have := HB9.out.size; simp; omega) ?_; intro v6 w10 hown6 hg6 hat6; obtain ⟨A7, cap7, rfl, hc7, hm7⟩ := path_own (l := cd.ps ++ LIT1) (by simpa using hown6) (by simp [LIT1]); have HM10 := Lib.hid hm7; have HB10 := Lib.hid ((HB9.out.alloc HB9.out.size _).trans (grown_bel hg6 (by have := HB9.out.size; simp; omega) (fun k hk => (World.ownsRow.lt HO9.out k hk).1))); clear hown6 hg6 hat6 hm7; have HE10 := Lib.hid (HE8.out.bel HB10.out HE8.out.lt); obtain ⟨dsz, ⟨d0, d1, d2, d3⟩, q0, q1, q2, q3⟩ := HE10.out.four))
    -- LAST
    obtain ⟨w11, hw11⟩ : ∃ w11, w10.setCell ⟨w7.heap.size, 0, none⟩ (.slice A7 (cd.ps.length + LIT1.length) cap7) = w11 := ⟨_, rfl⟩
    have hlt8 := HE8.out.lt
    have HB11 := Lib.hid (show Bel w7.heap.size w7 w11 from by rw [← hw11]; exact (HB78.out.trans (HB10.out.mono (by omega))).setCell (Nat.le_refl _) _)
    have HF11 := Lib.hid (HF7.out.bel HB11.out)
    have HD11 := Lib.hid (HD7.out.bel HB11.out HD7.out.lt)
    have HM11 := Lib.hid (HM7.out.bel HB11.out)
    have HE11 := Lib.hid (show Blk w11 w7.heap.size 27 #[.slice A7 (cd.ps.length + LIT1.length) cap7, .slice A2 cd.gs.length c2, .slice A3 cd.ss.length c3, .slice A4 cd.is.length c4] from by rw [← hw11]; exact HE10.out.set_ 0 _)
    have HN11 := Lib.hid (show CM w11 A7 A2 A3 A4 (withP cd ⟨true, 0, 0⟩) from ⟨HM10.out.imp id (by
      rintro ⟨b, off, e, hbs, hb, hc⟩
      have hk : ∀ o, w11.cell? ⟨b, o, none⟩ = w10.cell? ⟨b, o, none⟩ := fun o => by rw [← hw11]; exact World.cell?_setCell_other w10 _ _ _ (by intro e; injection e with e1; omega)
      refine ⟨b, off, e, by rw [← hw11]; simpa using hb, fun i x hx => ?_⟩
      simp only [hk]; exact hc i x hx), HF11.out.2.1.g, HF11.out.2.1.s, HF11.out.2.1.i⟩)
    rw [hw11]
    clear hw11 HE10 HM10 HB10 HB9 HO9 HO8 HR8 HE8 HF8 dsz d0 d1 d2 d3 q0 q1 q2 q3 xsz x0 x1 x2 x3 y0 y1 y2 y3 hlt8 HB78 HM7 HD7 HF7 HB11
    obtain ⟨xsz, ⟨x0, x1, x2, x3⟩, y0, y1, y2, y3⟩ := HF11.out.1.four
    obtain ⟨dsz, ⟨d0, d1, d2, d3⟩, p0, p1, p2, p3⟩ := HD11.out.four
    obtain ⟨esz, ⟨e0, e1, e2, e3⟩, q0, q1, q2, q3⟩ := HE11.out.four
    cases s with
    | true =>
      have hd1 : ∀ wz, CM wz A1 A2 A3 A6 (withIs cd (cd.is ++ LIT2)) → Calls Try.prog 7 #[.agg #[.slice A1 cd.ps.length c1, .slice A2 cd.gs.length c2, .slice A3 cd.ss.length c3, .slice A6 (cd.is.length + LIT2.length) cap6]] wz fun e w' => e = .returned (.bool true) ∧ Bel wz.heap.size wz w' := fun wz hz => by
        have := psound_any A1 A2 A3 A6 c1 c2 c3 cap6 (withIs cd (cd.is ++ LIT2)) wz hz (by show cd.ps.length ≤ _; omega) (by show cd.gs.length ≤ _; omega) (by show cd.ss.length ≤ _; omega) (by show (cd.is ++ LIT2).length ≤ _; simp [LIT2]; omega) lc2 lc3
        rw [sound_app cd LIT2 HSD.out] at this
        have hl : (withIs cd (cd.is ++ LIT2)).is.length = cd.is.length + LIT2.length := by show (cd.is ++ LIT2).length = _; rw [List.length_append]
        rw [hl] at this
        exact this
      have he1 : ∀ wz, CM wz A7 A2 A3 A4 (withP cd ⟨true, 0, 0⟩) → Calls Try.prog 7 #[.agg #[.slice A7 (cd.ps.length + LIT1.length) cap7, .slice A2 cd.gs.length c2, .slice A3 cd.ss.length c3, .slice A4 cd.is.length c4]] wz fun e w' => e = .returned (.bool true) ∧ Bel wz.heap.size wz w' := fun wz hz => by
        have := psound_any A7 A2 A3 A4 cap7 c2 c3 c4 (withP cd ⟨true, 0, 0⟩) wz hz (by show (cd.ps ++ LIT1).length ≤ _; simp [LIT1]; omega) (by show cd.gs.length ≤ _; omega) (by show cd.ss.length ≤ _; omega) (by show cd.is.length ≤ _; omega) lc2 lc3
        rw [sound_more cd HSD.out] at this
        have hl : (withP cd ⟨true, 0, 0⟩).ps.length = cd.ps.length + LIT1.length := by show (cd.ps ++ LIT1).length = _; rw [List.length_append]
        rw [hl] at this
        exact this
      clear hs hfew
      go_wp2_with (first
        | (go_at_call 7; (with_reducible refine (hd1 _ HM11.out).mono ?_); rintro e w12 ⟨rfl, hb⟩; have HF12 := Lib.hid (HF11.out.bel hb); have HE12 := Lib.hid (HE11.out.bel hb HE11.out.lt); have HN12 := Lib.hid (HN11.out.bel hb); clear hb xsz x0 x1 x2 x3 y0 y1 y2 y3 dsz d0 d1 d2 d3 p0 p1 p2 p3 esz e0 e1 e2 e3 q0 q1 q2 q3; obtain ⟨esz, ⟨e0, e1, e2, e3⟩, q0, q1, q2, q3⟩ := HE12.out.four)
        | (go_at_call 7; (with_reducible refine (he1 _ HN12.out).mono ?_); rintro e w13 ⟨rfl, hb⟩; have HF13 := Lib.hid (HF12.out.bel hb); clear hb))
      go_ret
      exact ⟨rfl, HF13.out.2.2⟩
    | false =>
      by_cases hp0 : cd.ps.length = 0
      · clear hs hfew
        have hp1 : (cd.ps.length : Int) = 0 := by omega
        go_wp2
        go_ret
        exact ⟨rfl, HF11.out.2.2⟩
      · have hp1 : ((cd.ps.length : Int) == 0) = false := beq_eq_false_iff_ne.2 (by omega)
        have hn1 : ∀ wz, CM wz A1 A2 A3 none (withIs cd []) → Calls Try.prog 7 #[.agg #[.slice A1 cd.ps.length c1, .slice A2 cd.gs.length c2, .slice A3 cd.ss.length c3, .slice none 0 0]] wz fun e w' => e = .returned (.bool false) ∧ Bel wz.heap.size wz w' := fun wz hz => by
          have := psound_any A1 A2 A3 none c1 c2 c3 0 (withIs cd []) wz hz (by show cd.ps.length ≤ _; omega) (by show cd.gs.length ≤ _; omega) (by show cd.ss.length ≤ _; omega) (by show ([] : List InsD).length ≤ _; simp) lc2 lc3
          have hf : soundL (withIs cd []) = false := by
            rw [← Bool.not_eq_true]; intro hh
            have := sound_noIs cd hh
            rw [HSD.out] at this; cases this
          rw [hf] at this
          exact this
        have HM12 := Lib.hid (show CM w11 A1 A2 A3 none (withIs cd []) from ⟨HF11.out.2.1.p, HF11.out.2.1.g, HF11.out.2.1.s, .inl rfl⟩)
        clear hs hfew hp0
        go_wp2_with (go_at_call 7; (with_reducible refine (hn1 _ HM12.out).mono ?_); rintro e w12 ⟨rfl, hb⟩; have HF12 := Lib.hid (HF11.out.bel hb); clear hb)
        go_ret
        exact ⟨rfl, HF12.out.2.2⟩

end Go.Proofs.Ythlcbjjeklkmfaa

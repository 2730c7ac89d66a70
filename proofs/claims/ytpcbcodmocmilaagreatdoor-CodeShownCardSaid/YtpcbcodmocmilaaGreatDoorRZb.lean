/- code: many (printed by gen_zb.py). -/
import Derived.Test.YtpcbcodmocmilaaGreatDoorRG42
namespace Go.Proofs.YtpcbcodmocmilaaGreatDoor
open Go.RowKit

/-- What expr does of a kid, whatever the maker has. -/
def KidM (w0 : World) (n : Nat) (d : KidD) : Prop :=
  ∀ (w : World) (g : Nat) (L : List BlkE) (rs : List RowE) (J : World → Prop) (c : CodeD) (W : List (PathT × Value)), MkS w0 w g L rs J c W → c.is.length + lenN n d.x ≤ 999990 → W.length + d.W.length ≤ 999990 →
    Calls Tryz.prog 47 #[.pointer (some ⟨g, 0, none⟩), .agg d.kc.toArray] w fun e w' => e = .returned (.tuple #[]) ∧ MkS w0 w' g L rs J ⟨c.ps, c.gs, c.ss, c.is ++ insN n c.is.length W.length d.x⟩ (W ++ d.W)
structure KidsM (w0 : World) (n : Nat) (b off : Nat) (D : List KidD) : Prop where
  lt : b < w0.heap.size
  kc : ∀ (i : Nat) (d : KidD), D[i]? = some d → d.kc.length = 17 ∧ w0.rangeAt b (off + i * 17) d.kc ∧ allOne d.kc = true
  call : ∀ d ∈ D, KidM w0 n d
  len : ∀ d ∈ D, (∀ a b, (insN n a b d.x).length = lenN n d.x) ∧ 1 ≤ lenN n d.x ∧ d.W.length = (waitN n d.x).length
def insO (n : Nat) (op : Int) (E a b : Nat) (l : List ExprT) : List InsD := insK (insN n) (lenN n) (fun y => (waitN n y).length) op E a b l

section
variable {w0 : World} {L : List BlkE} {rs : List RowE} {J : World → Prop}
theorem MkS.row {w : World} {g : Nat} {c : CodeD} {W : List (PathT × Value)} (h : MkS w0 w g L rs J c W) (T : TypeId) (k : Nat) : MkS w0 w g L ((.slice none 0 0, T, k, 0, []) :: rs) J c W := by
  obtain ⟨v1, v2, v3, v4, v5, M⟩ := h
  refine ⟨v1, v2, v3, v4, v5, (M.rowNil T k).permR ?_⟩
  unfold MkR
  exact (List.perm_middle (l₁ := [_, _, _, _, _])).symm

theorem flat_set {α : Type} (f : α → List Value) (k : Nat) (hk : ∀ x, (f x).length = k) (j : Nat) (hj : j < k) (u : Value) (y' : α) : ∀ (l : List α) (p : Nat) (y : α), l[p]? = some y → (f y).set j u = f y' → (l.flatMap f).set (p * k + j) u = (l.set p y').flatMap f
  | [], p, y, h, _ => by simp at h
  | x :: l, 0, y, h, he => by
    obtain rfl : x = y := by simpa using h
    rw [Nat.zero_mul, Nat.zero_add, List.flatMap_cons, List.set_append_left _ _ (by rw [hk]; exact hj), he, List.set_cons_zero, List.flatMap_cons]
  | x :: l, p + 1, y, h, he => by
    rw [List.flatMap_cons, List.set_append_right _ _ (by rw [hk, Nat.add_mul]; omega), hk, show (p + 1) * k + j - k = p * k + j by rw [Nat.add_mul]; omega, flat_set f k hk j hj u y' l p y (by simpa using h) he, List.set_cons_succ, List.flatMap_cons]
theorem nWD_app (a b : List KidD) : nWD (a ++ b) = nWD a + nWD b := by unfold nWD; rw [List.map_append, List.sum_append]
theorem ksD_app (a b : List KidD) : ksD (a ++ b) = ksD a ++ ksD b := by unfold ksD; rw [List.map_append]
theorem insO_len {n : Nat} {op : Int} {E a b : Nat} {D : List KidD} (h : ∀ d ∈ D, ∀ a b, (insN n a b d.x).length = lenN n d.x) : (insO n op E a b (ksD D)).length = lenK (lenN n) (ksD D) :=
  insK_len _ _ _ fun k hk => by
    obtain ⟨d, hd, rfl⟩ := List.mem_map.1 hk
    exact h d hd
theorem insO_snoc {n : Nat} {op : Int} {E a b : Nat} {Pd : List KidD} {d : KidD} (h : Pd ≠ []) (hW : ∀ d ∈ Pd, d.W.length = (waitN n d.x).length) : insO n op E a b (ksD (Pd ++ [d])) = insO n op E a b (ksD Pd) ++ ⟨op, 0, 0, 0, 0, ⟨#[]⟩, E⟩ :: insN n (a + lenK (lenN n) (ksD Pd) + 1) (b + nWD Pd) d.x := by
  rw [ksD_app]
  unfold insO
  rw [show ksD [d] = [d.x] from rfl, insK_snoc (ksD Pd) d.x a b (by intro e; exact h (by unfold ksD at e; simpa using e)), nWD_eq hW]
  rfl

set_option maxRecDepth 100000 in
set_option maxHeartbeats 2000000 in
theorem mmany_any (g : Nat) (c : CodeD) (W : List (PathT × Value)) (n b off cp : Nat) (D : List KidD) (op : Int) (hD : 2 ≤ D.length) (hK : KidsM w0 n b off D) (w : World) (h : MkS w0 w g L rs J c W) (hl : c.is.length + lenK (lenN n) (ksD D) ≤ 999990) (hlw : W.length + nWD D ≤ 999990) (hD2 : D.length ≤ 999990) :
    Calls Tryz.prog 66 #[.pointer (some ⟨g, 0, none⟩), .slice (some ⟨b, off, none⟩) D.length cp, .int .i64 op] w fun e w' => e = .returned (.tuple #[]) ∧ MkS w0 w' g L rs J ⟨c.ps, c.gs, c.ss, c.is ++ insO n op (c.is.length + lenK (lenN n) (ksD D)) c.is.length W.length (ksD D)⟩ (W ++ D.flatMap (·.W)) := by
  have M := Lib.hid (h.row 3 1)
  have HK := Lib.hid hK
  have HL := Lib.hid hl
  have HLW := Lib.hid hlw
  obtain ⟨E, hE⟩ : ∃ E, c.is.length + lenK (lenN n) (ksD D) = E := ⟨_, rfl⟩
  rw [hE]
  have HE := Lib.hid hE
  clear h hK hl hlw hE
  go_enter Tryz.func66, Tryz.ntmps66
  go_wp2
  go_loopg [6, 13] D.length (fun gk v6 kv wr => ∃ (Pd Rd : List KidD), gk = Rd.length ∧ Hid (D = Pd ++ Rd) ∧ kv = .int .i64 (Pd.length : Nat) ∧ Hid (MkS w0 wr g L ((v6, 3, 1, (posK (lenN n) c.is.length (ksD Pd)).length, posV (lenN n) c.is.length (ksD Pd)) :: rs) J ⟨c.ps, c.gs, c.ss, c.is ++ insO n op 0 c.is.length W.length (ksD Pd)⟩ (W ++ Pd.flatMap (·.W))))
  case atStart => exact ⟨[], D, rfl, Lib.hid rfl, rfl, by simpa [insO, insK, ksD, posV, posK] using M⟩
  case round =>
    clear M
    obtain ⟨Pd, Rd0, hgk, HD, rfl, M⟩ := hrel
    have HGK := Lib.hid hgk
    cases Rd0 with
    | cons dk Rd =>
      have HI := Lib.hid (show D[Pd.length]? = some dk from by rw [HD.out, List.getElem?_append_right (Nat.le_refl _), Nat.sub_self]; rfl)
      have hmem : dk ∈ D := List.mem_of_getElem? HI.out
      have hltn : Pd.length < D.length := (List.getElem?_eq_some_iff.1 HI.out).1
      have hlt : (Pd.length : Int) < (D.length : Int) := by omega
      obtain ⟨hkc, hra, hone⟩ := HK.out.kc _ _ HI.out
      have HKC := Lib.hid (HK.out.call dk hmem)
      unfold KidM at HKC
      have HKN := Lib.hid hkc
      have HON := Lib.hid (show allOne dk.kc.toArray.toList = true from by simpa using hone)
      have HRA := Lib.hid hra
      have HPL := Lib.hid (show ∀ d ∈ Pd, (∀ a b, (insN n a b d.x).length = lenN n d.x) ∧ 1 ≤ lenN n d.x ∧ d.W.length = (waitN n d.x).length from fun d hd => HK.out.len d (by rw [HD.out]; simp [hd]))
      have HIL := Lib.hid (show (insO n op 0 c.is.length W.length (ksD Pd)).length = lenK (lenN n) (ksD Pd) from insO_len fun d hd => (HPL.out d hd).1)
      have HWL := Lib.hid (show (W ++ Pd.flatMap (·.W)).length = W.length + nWD Pd from by rw [List.length_append, nWD_len])
      have hb1 := lenK_app_le (L := lenN n) (ksD (Pd ++ [dk])) (ksD Rd)
      have hb2 : nWD Pd + dk.W.length ≤ nWD D := by
        rw [HD.out, nWD_app]; unfold nWD; simp
      rw [← ksD_app, List.append_assoc, List.singleton_append, ← HD.out] at hb1
      have HB5 := Lib.hid (show c.is.length + lenK (lenN n) (ksD (Pd ++ [dk])) ≤ 999990 from by have := HL.out; omega)
      clear hkc hra hone hb1
      obtain ⟨v1, v2, v3, v4, v5, hM⟩ := M.out; unfold MkR at hM; replace M := Lib.hid hM; clear hM
      go_upto_region 4 with (first | ((with_reducible refine g_ld 106 ?_); refine l_ldf F_Ex rfl (fun j v hv => (World.cell?_of_block (M.out.bel0.block b HK.out.lt)).trans (HRA.out j v hv)) HKN.out ?_) | ((with_reducible refine g_al 106 8 ?_); refine l_al F_Ex M.out ?_; clear M; intro g8 w' hg8 M) | ((with_reducible refine g_st 106 ?_); refine l_st F_Ex rfl rfl M.out (by repeat constructor) rfl (by simpa using HKN.out) HON.out ?_; clear M; intro w' M; replace M := Lib.hid M.out.freeze))
      by_cases hPd : Pd = []
      · subst hPd
        have HB2 := Lib.hid (show (c.is ++ insO n op 0 c.is.length W.length (ksD [])).length + lenN n dk.x ≤ 999990 from by
          rw [List.length_append, HIL.out]; have := HB5.out; simpa [ksD, lenK] using this)
        have HB3 := Lib.hid (show (W ++ [].flatMap fun (d : KidD) => d.W).length + dk.W.length ≤ 999990 from by
          rw [HWL.out]; have := HLW.out; omega)
        replace M := Lib.hid (show MkS w0 _ g L _ _ ⟨c.ps, c.gs, c.ss, c.is ++ insO n op 0 c.is.length W.length (ksD [])⟩ (W ++ ([] : List KidD).flatMap (·.W)) from ⟨v1, v2, v3, v4, v5, M.out⟩)
        have hn0 : ¬ (0 : Int) < (([] : List KidD).length : Int) := by simp
        go_wp2_with (first | ((with_reducible refine g_ld 106 ?_); refine l_ldb F_Ex rfl (M.out.now.2) (by simpa using HKN.out) ?_) | (go_at_call 47; (with_reducible refine (HKC.out _ g L _ _ _ _ M.out HB2.out HB3.out).mono ?_); rintro e w' ⟨rfl, hm⟩; replace M := Lib.hid hm; clear hm))
        go_roundg Rd.length
        case measure => rw [HGK.out]; simp
        case rel => exact ⟨[dk], Rd, rfl, HD, by simp, Lib.hid (by
            have h := M.out.imp (J' := J) fun y h => h.1
            simpa [ksD, insO, insK, lenK, posV, posK] using h)⟩
      · have hpl : (0 : Int) < (Pd.length : Int) := by have := List.length_pos_iff.2 hPd; omega
        have hkp : ksD Pd ≠ [] := fun e => hPd (by unfold ksD at e; simpa using e)
        have HSN := Lib.hid (lenK_snoc (L := lenN n) (ksD Pd) dk.x hkp)
        have hkd : ksD (Pd ++ [dk]) = ksD Pd ++ [dk.x] := by rw [ksD_app]; rfl
        have HB1 := Lib.hid (show (c.is ++ insO n op 0 c.is.length W.length (ksD Pd)).length ≤ 999999 from by
          rw [List.length_append, HIL.out]; have := HB5.out; rw [hkd, HSN.out] at this; omega)
        have HLO := Lib.hid (show (c.is ++ insO n op 0 c.is.length W.length (ksD Pd)).length = c.is.length + lenK (lenN n) (ksD Pd) from by rw [List.length_append, HIL.out])
        have HB2 := Lib.hid (show (c.is ++ insO n op 0 c.is.length W.length (ksD Pd) ++ [(⟨op, 0, 0, 0, 0, ⟨#[]⟩, 0⟩ : InsD)]).length + lenN n dk.x ≤ 999990 from by
          rw [List.length_append, HLO.out, List.length_singleton]; have := HB5.out; rw [hkd, HSN.out] at this; omega)
        have HB3 := Lib.hid (show (W ++ Pd.flatMap fun (d : KidD) => d.W).length + dk.W.length ≤ 999990 from by
          rw [HWL.out]; have := HLW.out; omega)
        have HEQ := Lib.hid (show c.is ++ insO n op 0 c.is.length W.length (ksD Pd) ++ [(⟨op, 0, 0, 0, 0, ⟨#[]⟩, 0⟩ : InsD)] ++ insN n (c.is ++ insO n op 0 c.is.length W.length (ksD Pd) ++ [(⟨op, 0, 0, 0, 0, ⟨#[]⟩, 0⟩ : InsD)]).length (W ++ Pd.flatMap fun (d : KidD) => d.W).length dk.x = c.is ++ insO n op 0 c.is.length W.length (ksD (Pd ++ [dk])) from by
          rw [List.length_append, HLO.out, HWL.out, insO_snoc hPd fun d hd => (HPL.out d hd).2.2, List.length_singleton, List.append_assoc, List.append_assoc]; rfl)
        have HPS := Lib.hid (show posV (lenN n) c.is.length (ksD (Pd ++ [dk])) = posV (lenN n) c.is.length (ksD Pd) ++ [.int .i64 ((c.is.length + lenK (lenN n) (ksD Pd) : Nat) : Int)] ∧ (posK (lenN n) c.is.length (ksD (Pd ++ [dk]))).length = (posK (lenN n) c.is.length (ksD Pd)).length + 1 from by
          rw [hkd]; unfold posV; rw [posK_snoc _ _ _ hkp]; simp)
        have hpk := posK_len (L := lenN n) (ksD Pd) c.is.length
        have hkl : (ksD Pd).length = Pd.length := by unfold ksD; rw [List.length_map]
        obtain ⟨PP, hPP⟩ : ∃ PP, c.is.length + lenK (lenN n) (ksD Pd) = PP := ⟨_, rfl⟩
        have HPT := Lib.hid (fun (wz : World) (hm : MkS w0 wz g L ((u6, 3, 1, (posK (lenN n) c.is.length (ksD Pd)).length, posV (lenN n) c.is.length (ksD Pd)) :: rs) (fun y => J y ∧ Blk y g8 106 dk.kc.toArray) ⟨c.ps, c.gs, c.ss, c.is ++ insO n op 0 c.is.length W.length (ksD Pd)⟩ (W ++ Pd.flatMap (·.W))) => show Calls Tryz.prog 48 #[.pointer (some ⟨g, 0, none⟩), .agg #[.int .i64 op, .int .i64 0, .int .i64 0, .int .i64 0, .int .i64 0, .string ⟨#[]⟩, .int .i64 0]] wz fun e w' => e = .returned (.int .i64 (PP : Int)) ∧ MkS w0 w' g L ((u6, 3, 1, (posK (lenN n) c.is.length (ksD Pd)).length, posV (lenN n) c.is.length (ksD Pd)) :: rs) (fun y => J y ∧ Blk y g8 106 dk.kc.toArray) ⟨c.ps, c.gs, c.ss, c.is ++ insO n op 0 c.is.length W.length (ksD Pd) ++ [(⟨op, 0, 0, 0, 0, ⟨#[]⟩, 0⟩ : InsD)]⟩ (W ++ Pd.flatMap (·.W)) from by
          have := mput_any g _ _ ⟨op, 0, 0, 0, 0, ⟨#[]⟩, 0⟩ _ hm HB1.out
          simp only [HLO.out, hPP] at this
          exact this)
        rw [hPP] at HPS
        clear hkp hkd
        replace M := Lib.hid (show MkS w0 _ g L _ _ ⟨c.ps, c.gs, c.ss, c.is ++ insO n op 0 c.is.length W.length (ksD Pd)⟩ (W ++ Pd.flatMap (·.W)) from ⟨v1, v2, v3, v4, v5, M.out⟩)
        go_upto_region 6 with (first | (go_at_call 48; (with_reducible refine (HPT.out _ M.out).mono ?_); rintro e w' ⟨rfl, hm⟩; obtain ⟨v1, v2, v3, v4, v5, hM⟩ := hm; unfold MkR at hM; replace M := Lib.hid hM; clear hM) | ((with_reducible refine g_bs 147 25 ?_); refine l_bs SL_sint (cs := #[.int .i64 (PP : Int)]) (by kernel_rfl) M.out ?_; clear M; intro g25 w' hg25 M) | ((with_reducible refine g_ap 147 26 ?_); refine l_apB SL_sint rfl rfl M.out (by repeat constructor) (by repeat constructor) (by exact rfl) (by exact rfl) (by unfold maxLen; omega) (by omega) ?_; intro v26 w' Mn; replace Mn := Mn _ (by repeat constructor); replace M := Lib.hid Mn; clear Mn))
        replace M := Lib.hid (M.out.freeze.imp (J' := fun y => J y ∧ Blk y g8 106 dk.kc.toArray) fun y h => h.1)
        replace M := Lib.hid (show MkS w0 _ g L _ _ ⟨c.ps, c.gs, c.ss, c.is ++ insO n op 0 c.is.length W.length (ksD Pd) ++ [(⟨op, 0, 0, 0, 0, ⟨#[]⟩, 0⟩ : InsD)]⟩ (W ++ Pd.flatMap (·.W)) from ⟨v1, v2, v3, v4, v5, M.out⟩)
        go_wp2_with (first | ((with_reducible refine g_ld 106 ?_); refine l_ldb F_Ex rfl (M.out.now.2) (by simpa using HKN.out) ?_) | (go_at_call 47; (with_reducible refine (HKC.out _ g L _ _ _ _ M.out HB2.out HB3.out).mono ?_); rintro e w' ⟨rfl, hm⟩; replace M := Lib.hid hm; clear hm))
        go_roundg Rd.length
        case measure => rw [HGK.out]; simp
        case rel => exact ⟨Pd ++ [dk], Rd, rfl, Lib.hid (by rw [HD.out]; simp), by first | go_num | simp, Lib.hid (by
            have h := M.out.imp (J' := J) fun y h => h.1
            rw [HEQ.out] at h
            rw [HPS.out.1, HPS.out.2, List.flatMap_append, List.flatMap_cons, List.flatMap_nil, List.append_nil, ← List.append_assoc]
            exact h)⟩
    | nil =>
      obtain rfl : D = Pd := by simpa using HD.out
      have hnlt : ¬ (D.length : Int) < (D.length : Int) := by omega
      obtain ⟨A6, c6, hv6, hA6, ⟨hc6, hm6⟩, M2⟩ := M.out.freeze
      subst hv6
      replace M := Lib.hid M2
      clear M2 HD
      have HA6 := Lib.hid hA6
      clear hA6
      have hkD : (ksD D).length = D.length := by unfold ksD; rw [List.length_map]
      have HIL := Lib.hid (show (insO n op 0 c.is.length W.length (ksD D)).length = lenK (lenN n) (ksD D) from insO_len fun d hd => (HK.out.len d hd).1)
      have hE9 : E ≤ 999990 := by have := HL.out; have := HE.out; omega
      have hpk := posK_len (L := lenN n) (ksD D) c.is.length
      have HPQ := Lib.hid (posK_lt (L := lenN n) (ksD D) (fun x hx => by
        obtain ⟨d, hd, rfl⟩ := List.mem_map.1 hx
        exact (HK.out.len d hd).2.1) c.is.length)
      rw [HE.out] at HPQ
      obtain ⟨PK, hPK⟩ : ∃ PK, posK (lenN n) c.is.length (ksD D) = PK := ⟨_, rfl⟩
      have HPK := Lib.hid hPK
      have HM0 := Lib.hid (show MkS w0 _ g L rs (fun y => J y ∧ Rdd y 1 A6 PK.length (PK.map fun (p : Nat) => .int .i64 (p : Int))) ⟨c.ps, c.gs, c.ss, c.is ++ insO n op 0 c.is.length W.length (ksD D)⟩ (W ++ D.flatMap (·.W)) from by rw [← hPK]; exact M.out)
      clear M
      have M := HM0
      clear HM0
      rw [hPK] at HPQ hpk ⊢
      rw [hPK] at hc6
      have hpk9 : PK.length ≤ 999990 := by omega
      have HPAT := Lib.hid (show patchL E PK (c.is ++ insO n op 0 c.is.length W.length (ksD D)) = c.is ++ insO n op E c.is.length W.length (ksD D) from by
        have := patch_all (I := insN n) (L := lenN n) (Wt := fun y => (waitN n y).length) (op := op) (E := E) (ksD D) (fun x hx => by
          obtain ⟨d, hd, rfl⟩ := List.mem_map.1 hx
          exact (HK.out.len d hd).1) c.is.length W.length c.is [] rfl
        rw [hPK] at this
        simpa [insO] using this)
      have HLN := Lib.hid (show (c.is ++ insO n op 0 c.is.length W.length (ksD D)).length = E from by rw [List.length_append, HIL.out, HE.out])
      clear hPK hpk hkD
      go_wp2
      go_loopg [33] PK.length (fun gk kv wr => ∃ k : Nat, gk = PK.length - k ∧ kv = .int .i64 (k : Int) ∧ Hid (k ≤ PK.length) ∧ Hid (MkS w0 wr g L rs (fun y => J y ∧ Rdd y 1 A6 PK.length (PK.map fun (p : Nat) => .int .i64 (p : Int))) ⟨c.ps, c.gs, c.ss, patchL E (PK.take k) (c.is ++ insO n op 0 c.is.length W.length (ksD D))⟩ (W ++ D.flatMap (·.W))))
      case atStart => exact ⟨0, rfl, by simp, Lib.hid (Nat.zero_le _), by simpa [patchL] using M⟩
      case round =>
        clear M
        obtain ⟨k, hgk, rfl, HKB, M⟩ := hrel
        have hkb := HKB.out
        by_cases hkl : k < PK.length
        · have hkI : (k : Int) < (PK.length : Int) := by omega
          obtain ⟨p, hp⟩ : ∃ p, PK[k]? = some p := ⟨_, List.getElem?_eq_getElem hkl⟩
          have hpE := (HPQ.out p (List.mem_of_getElem? hp)).2
          obtain ⟨IS, hIS⟩ : ∃ IS, patchL E (PK.take k) (c.is ++ insO n op 0 c.is.length W.length (ksD D)) = IS := ⟨_, rfl⟩
          have hln : IS.length = E := by rw [← hIS, patchL_len]; exact HLN.out
          obtain ⟨y, hy⟩ : ∃ y, IS[p]? = some y := ⟨_, List.getElem?_eq_getElem (by omega)⟩
          have HNX := Lib.hid (show patchL E (PK.take (k + 1)) (c.is ++ insO n op 0 c.is.length W.length (ksD D)) = IS.set p (toD E y) from by
            rw [List.take_add_one, hp, Option.toList_some, patchL_snoc, hIS, modify_set hy])
          have HFS := Lib.hid (flat_set insC 7 (fun _ => rfl) 6 (by omega) (.int .i64 (E : Int)) (toD E y) IS p y hy rfl)
          obtain ⟨ad, hA, _⟩ := M.out.now.2.2 (by omega)
          obtain ⟨b6, rfl⟩ := HA6.out _ hA
          subst hA
          have HC6 := Lib.hid (show ∀ y : World, Rdd y 1 (some ⟨b6, 0, none⟩) PK.length (PK.map fun (p : Nat) => .int .i64 (p : Int)) → y.cell? ⟨b6, k, none⟩ = some (.int .i64 (p : Int)) from fun y h => by
            obtain ⟨ad, e, _, hc⟩ := h.2 (by omega)
            cases e
            have := hc k (.int .i64 (p : Int)) (by rw [List.getElem?_map, hp]; rfl)
            rw [add_lit] at this
            simpa using this)
          rw [hIS] at M
          obtain ⟨v1, v2, v3, v4, v5, hM⟩ := M.out
          unfold MkR at hM
          dsimp only at hM
          rw [hln] at hM
          obtain ⟨gr, cr, hv4, hcr1, hcr2⟩ := own_slice (n := E) (hM.row (v4, 59, 7, E, IS.flatMap insC) (by repeat constructor)) (by omega)
          simp only at hv4
          subst hv4
          replace M := Lib.hid hM
          clear hM
          have hpI : (p : Int) < (E : Int) := by omega
          have HGJ := Lib.hid hgk
          have hpj : p * 7 + 6 < E * 7 := by omega
          have HLI := Lib.hid hln
          clear hp hy hgk hln hIS
          go_upto_region 11 with (first | ((with_reducible refine g_ld 3 ?_); refine l_ldc O_int rfl (HC6.out _ M.out.now.2) ?_))
          replace M := Lib.hid M.out.drew
          refine tb (fun y => (J y ∧ Rdd y 1 (some ⟨b6, 0, none⟩) PK.length (PK.map fun (p : Nat) => .int .i64 (p : Int))) ∧ Blk y g 71 #[v1, v2, v3, .slice (some ⟨gr, 0, none⟩) E cr, v5]) ⟨M.out.now, M.out.blk (g, _, _) (by repeat constructor)⟩ ?_
          refine tkp 0 rfl ⟨M.out.now, M.out.blk (g, _, _) (by repeat constructor)⟩ ?_
          refine tkp 1 rfl ⟨M.out.now, M.out.blk (g, _, _) (by repeat constructor)⟩ ?_
          refine tkp 2 rfl ⟨M.out.now, M.out.blk (g, _, _) (by repeat constructor)⟩ ?_
          refine tkp 3 rfl ⟨M.out.now, M.out.blk (g, _, _) (by repeat constructor)⟩ ?_
          refine tk 4 rfl ⟨M.out.now, M.out.blk (g, _, _) (by repeat constructor)⟩ (y_ld1 O_sIns _ g 3 rfl _ _ (fun y h => h.2) _ rfl) ?_
          refine tkp 5 rfl ⟨M.out.now, M.out.blk (g, _, _) (by repeat constructor)⟩ ?_
          refine tkp 6 rfl ⟨M.out.now, M.out.blk (g, _, _) (by repeat constructor)⟩ ?_
          refine tkp 7 rfl ⟨M.out.now, M.out.blk (g, _, _) (by repeat constructor)⟩ ?_
          refine tkp 8 rfl ⟨M.out.now, M.out.blk (g, _, _) (by repeat constructor)⟩ ?_
          refine tkp 9 rfl ⟨M.out.now, M.out.blk (g, _, _) (by repeat constructor)⟩ ?_
          refine tk 10 rfl ⟨M.out.now, M.out.blk (g, _, _) (by repeat constructor)⟩ (y_ld1 O_sIns _ g 3 rfl _ _ (fun y h => h.2) _ rfl) ?_
          refine tkp 11 rfl ⟨M.out.now, M.out.blk (g, _, _) (by repeat constructor)⟩ ?_
          refine tkp 12 rfl ⟨M.out.now, M.out.blk (g, _, _) (by repeat constructor)⟩ ?_
          refine tkp 13 rfl ⟨M.out.now, M.out.blk (g, _, _) (by repeat constructor)⟩ ?_
          refine tr [14] ?_
          refine r_st1r O_int (v := .int .i64 (E : Int)) (i := 14) rfl rfl rfl rfl M.out (by repeat constructor) hpj ?_ ?_
          · clear M; intro w' M; refine ⟨⟨M.out.now, M.out.blk (g, _, _) (by repeat constructor)⟩, tn ?_⟩
            refine te ?_
            go_wp2
            go_roundg (PK.length - (k + 1))
            case measure => rw [HGJ.out]; omega
            case rel => exact ⟨k + 1, rfl, by first | go_num | simp, Lib.hid (by omega), Lib.hid (by
                rw [HNX.out]
                have h := M.out
                rw [HFS.out] at h
                refine ⟨v1, v2, v3, .slice (some ⟨gr, 0, none⟩) E cr, v5, ?_⟩
                unfold MkR
                dsimp only
                rw [List.length_set, HLI.out]
                exact h)⟩
          exact .nil
        · obtain rfl : k = PK.length := by omega
          rw [List.take_length, HPAT.out] at M
          have hnk : ¬ (PK.length : Int) < (PK.length : Int) := by omega
          go_wp2
          go_end0
          exact ⟨rfl, M.out.imp fun y h => h.1⟩

end

end Go.Proofs.YtpcbcodmocmilaaGreatDoor

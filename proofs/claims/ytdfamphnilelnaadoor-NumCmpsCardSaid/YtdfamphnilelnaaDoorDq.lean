/- NumCmps: the reference's comparing and num's agree: plain. -/
import Derived.Test.YtdfamphnilelnaaDoorDu
namespace Go.Proofs.YtdfamphnilelnaaDoor
open Go.RowKit

/-- Digits held one against the other, from a place on. -/
def lexD (f g : Nat → Int) : Nat → Nat → Int
  | _, 0 => 0
  | i, n + 1 => if f i < g i then -1 else if g i < f i then 1 else lexD f g (i + 1) n
def sideR (m : Bool) (ds : List Int) : Int := if ds.all (· == 0) then 0 else if m then -1 else 1
def topR (ds : List Int) (p : Int) : Int := p - 1 - (lz ds : Int)
def lowR (ds : List Int) (p : Int) : Int := p - 1 - ((ds.length - 1 - tz ds : Nat) : Int)
/-- What ref10.Less answers (p: the point and the exponent together). -/
def lessR (ma mb : Bool) (da db : List Int) (pa pb : Int) : Int :=
  if sideR ma da < sideR mb db then -1 else if sideR mb db < sideR ma da then 1 else if sideR ma da = 0 then 0
  else if topR da pa ≠ topR db pb then (if topR da pa < topR db pb then -(sideR ma da) else sideR ma da)
  else sideR ma da * lexD (fun j => atD da ((lz da + j : Nat) : Int)) (fun j => atD db ((lz db + j : Nat) : Int)) 0 (topR da pa - min (lowR da pa) (lowR db pb) + 1).toNat

/-- Bytes and digits of two lists, from ahead. -/
def hB : L8 → Int | [] => 0 | c :: _ => c.toNat
def hG : L8 → Int | [] => 0 | c :: _ => (c.toNat : Int) - 48
def LB : L8 → L8 → Nat → Int
  | _, _, 0 => 0
  | d, e, n + 1 => if hB d < hB e then -1 else if hB e < hB d then 1 else LB d.tail e.tail n
def LD : L8 → L8 → Nat → Int
  | _, _, 0 => 0
  | d, e, n + 1 => if hG d < hG e then -1 else if hG e < hG d then 1 else LD d.tail e.tail n
theorem hB_drop (l : L8) (i : Nat) : hB (l.drop i) = pbI l i := by
  unfold pbI
  rcases Nat.lt_or_ge i l.length with h | h
  · rw [List.drop_eq_getElem_cons h, List.getD_eq_getElem?_getD, List.getElem?_eq_getElem h]; rfl
  · rw [List.drop_of_length_le h, List.getD_eq_getElem?_getD, List.getElem?_eq_none h]; rfl
theorem lexF_LB (a b : L8) : ∀ n i, lexF a b i n = LB (a.drop i) (b.drop i) n
  | 0, i => by rw [lexF]; cases a.drop i <;> cases b.drop i <;> rfl
  | n + 1, i => by
    rw [lexF, lexF_LB a b n (i + 1), ← hB_drop, ← hB_drop, LB, List.tail_drop, List.tail_drop]
theorem hG_drop (l : L8) (hd : l.all isDig = true) (i : Nat) : hG (l.drop i) = dg l i := by
  unfold dg
  rcases Nat.lt_or_ge i l.length with h | h
  · rw [if_pos h, List.drop_eq_getElem_cons h]
    have hb := dig_at hd h
    rw [List.getD_eq_getElem?_getD, List.getElem?_eq_getElem h] at hb ⊢
    simp only [Option.getD_some] at hb ⊢
    show (l[i].toNat : Int) - 48 = _
    omega
  · rw [if_neg (by omega), List.drop_of_length_le h]; rfl
theorem lexD_LD (a b : L8) (ha : a.all isDig = true) (hb : b.all isDig = true) (f g : Nat → Int) (hf : ∀ j, f j = dg a j) (hg : ∀ j, g j = dg b j) : ∀ n i, lexD f g i n = LD (a.drop i) (b.drop i) n
  | 0, i => by rw [lexD]; cases a.drop i <;> cases b.drop i <;> rfl
  | n + 1, i => by
    rw [lexD, lexD_LD a b ha hb f g hf hg n (i + 1), hf, hg, ← hG_drop a ha, ← hG_drop b hb, LD, List.tail_drop, List.tail_drop]
/-- No nought stands behind. -/
def noB (l : L8) : Prop := tB l = l
theorem noB_tail {c : UInt8} {r : L8} (h : noB (c :: r)) : noB r ∧ (r = [] → c ≠ 48) := by
  unfold noB at h ⊢
  rw [tB_cons] at h
  split at h
  · rename_i hr
    split at h
    · cases h
    · injection h with _ h
      subst h
      exact ⟨rfl, fun _ => by assumption⟩
  · rename_i hr
    injection h with _ h
    exact ⟨h, fun e => by rw [e] at hr; exact absurd rfl hr⟩
theorem LD_less : ∀ (e : L8) (n : Nat), e.all isDig = true → noB e → e ≠ [] → e.length ≤ n → LD [] e n = -1 ∧ LD e [] n = 1
  | [], _, _, _, h, _ => absurd rfl h
  | c :: r, 0, _, _, _, h => by simp at h
  | c :: r, n + 1, hd, hn, _, hl => by
    simp only [List.all_cons, Bool.and_eq_true] at hd
    have hc := dig_bd hd.1
    obtain ⟨h1, h2⟩ := noB_tail hn
    have e0 : hG [] = 0 := rfl
    have e1 : hG (c :: r) = (c.toNat : Int) - 48 := rfl
    rw [LD, LD, e0, e1]
    by_cases h48 : (c.toNat : Int) = 48
    · have hr : r ≠ [] := by
        intro e; apply h2 e; rw [← UInt8.toNat_inj]; have : (48 : UInt8).toNat = 48 := rfl; omega
      rw [if_neg (by omega), if_neg (by omega), if_neg (by omega), if_neg (by omega)]
      exact LD_less r n hd.2 h1 hr (by simpa using hl)
    · rw [if_pos (by omega), if_neg (by omega), if_pos (by omega)]
      exact ⟨rfl, rfl⟩
theorem LB_nil : ∀ n, LB [] [] n = 0
  | 0 => rfl
  | n + 1 => by rw [LB, if_neg (by omega), if_neg (by omega)]; exact LB_nil n
theorem LD_nil : ∀ n, LD [] [] n = 0
  | 0 => rfl
  | n + 1 => by rw [LD, if_neg (by omega), if_neg (by omega)]; exact LD_nil n
theorem LB_LD : ∀ (d e : L8) (n N : Nat), d.all isDig = true → e.all isDig = true → noB d → noB e → e.length < n → d.length ≤ N → e.length ≤ N → LB d e n = LD d e N
  | [], [], n, N, _, _, _, _, _, _, _ => by rw [LB_nil, LD_nil]
  | [], c :: r, n, N, _, he, _, hb, hn, _, hN => by
    rw [(LD_less (c :: r) N he hb (by simp) hN).1]
    obtain ⟨k, rfl⟩ : ∃ k, n = k + 1 := ⟨n - 1, by simp at hn; omega⟩
    simp only [List.all_cons, Bool.and_eq_true] at he
    have hc := dig_bd he.1
    have e1 : hB (c :: r) = c.toNat := rfl
    have e0 : hB [] = 0 := rfl
    rw [LB, e0, e1, if_pos (by omega)]
  | c :: r, [], n, N, hd, _, hb, _, hn, hN, _ => by
    rw [(LD_less (c :: r) N hd hb (by simp) hN).2]
    obtain ⟨k, rfl⟩ : ∃ k, n = k + 1 := ⟨n - 1, by omega⟩
    simp only [List.all_cons, Bool.and_eq_true] at hd
    have hc := dig_bd hd.1
    have e1 : hB (c :: r) = c.toNat := rfl
    have e0 : hB [] = 0 := rfl
    rw [LB, e0, e1, if_neg (by omega), if_pos (by omega)]
  | c :: r, x :: s, n, N, hd, he, hb1, hb2, hn, h1, h2 => by
    obtain ⟨k, rfl⟩ : ∃ k, n = k + 1 := ⟨n - 1, by simp at hn; omega⟩
    obtain ⟨M, rfl⟩ : ∃ M, N = M + 1 := ⟨N - 1, by simp at h1; omega⟩
    simp only [List.all_cons, Bool.and_eq_true] at hd he
    have e1 : hB (c :: r) = c.toNat := rfl
    have e2 : hB (x :: s) = x.toNat := rfl
    have e3 : hG (c :: r) = (c.toNat : Int) - 48 := rfl
    have e4 : hG (x :: s) = (x.toNat : Int) - 48 := rfl
    rw [LB, LD, e1, e2, e3, e4]
    have ih := LB_LD r s k M hd.2 he.2 (noB_tail hb1).1 (noB_tail hb2).1 (by simp at hn; omega) (by simp at h1; omega) (by simp at h2; omega)
    show (if _ then _ else if _ then _ else LB r s k) = (if _ then _ else if _ then _ else LD r s M)
    rw [ih]
    by_cases h : (c.toNat : Int) < x.toNat
    · rw [if_pos h, if_pos (by omega)]
    · by_cases h' : (x.toNat : Int) < c.toNat
      · rw [if_neg h, if_pos h', if_neg (by omega), if_pos (by omega)]
      · rw [if_neg h, if_neg h', if_neg (by omega), if_neg (by omega)]
theorem tB_idem (l : L8) : noB (tB l) := by
  unfold noB
  induction l with
  | nil => rfl
  | cons c r ih =>
    rw [tB_cons]
    split
    · split
      · rfl
      · rename_i h; rw [tB_cons, if_pos (show tB [] = [] from rfl), if_neg h]
    · rename_i h
      rw [tB_cons, ih, if_neg h]
theorem tB_all (l : L8) (h : l.all isDig = true) : (tB l).all isDig = true := by
  rw [tB_take]
  rw [List.all_eq_true] at h ⊢
  exact fun c hc => h c (List.mem_of_mem_take hc)
theorem tF_all (l : L8) (h : l.all isDig = true) : (tF l).all isDig = true := by
  rw [tF_drop]
  rw [List.all_eq_true] at h ⊢
  exact fun c hc => h c (List.mem_of_mem_drop hc)
theorem natD_len19 (n : Int) (n0 : -9223372036854775808 ≤ n) (n1 : n ≤ 9223372036854775807) : (natD n).length ≤ 19 := by
  by_cases h : n = 0
  · subst h; unfold natD; rw [show (0 : Int).natAbs = 0 from rfl, Lib.decDigits]; simp
  · obtain ⟨c, r, e, hc⟩ := dd_head n.natAbs (by omega)
    have hdig := dd_dig n.natAbs
    have hv := dd_val n.natAbs
    rw [e] at hdig hv
    simp only [List.all_cons, Bool.and_eq_true] at hdig
    have hcb := dig_bd hdig.1
    have hr := valD_bd r hdig.2
    have hc48 : (c.toNat : Int) ≠ 48 := by
      intro e48; apply hc; rw [← UInt8.toNat_inj]; have : (48 : UInt8).toNat = 48 := rfl; omega
    unfold natD
    rw [e, List.length_cons]
    rcases Nat.lt_or_ge r.length 19 with hl | hl
    · omega
    · exfalso
      rw [valD_cons] at hv
      have h1 : 10 ^ 19 ≤ 10 ^ r.length := Nat.pow_le_pow_right (by omega) hl
      have h2 : (10 : Nat) ^ 19 = 10000000000000000000 := by decide
      have h3 : (1 : Int) * ((10 ^ r.length : Nat) : Int) ≤ ((c.toNat : Int) - 48) * ((10 ^ r.length : Nat) : Int) := Int.mul_le_mul_of_nonneg_right (by omega) (by omega)
      have h4 : (10000000000000000000 : Int) ≤ ((10 ^ r.length : Nat) : Int) := by rw [h2] at h1; exact Int.ofNat_le.2 h1
      omega
/-- A value and the digits that it came of. -/
theorem trim_facts (m : Bool) (l : L8) (P : Int) (hd : l.all isDig = true) :
    sideV (trimV ⟨m, l, P⟩) = sideR m (dI l) ∧ ((dI l).all (· == 0) = false → (trimV ⟨m, l, P⟩).d = tB (tF l) ∧ (trimV ⟨m, l, P⟩).p = P - (lz (dI l) : Int) ∧ (tB (tF l)).length = l.length - lz (dI l) - tz (dI l) ∧ lz (dI l) + tz (dI l) < l.length) := by
  cases hz : (dI l).all (· == 0) with
  | true =>
    have e := trim_nil hz
    refine ⟨?_, fun h => by cases h⟩
    unfold trimV sideV sideR
    rw [hz]
    simp only [e]; rfl
  | false =>
    have h1 := lz_tz _ hz
    rw [dI_len] at h1
    have hlen : (tB (tF l)).length = l.length - lz (dI l) - tz (dI l) := by rw [trim_eq hz, List.length_take, List.length_drop]; omega
    have hne : tB (tF l) ≠ [] := by intro e; rw [e] at hlen; simp at hlen; omega
    have hft : (tF l).length = l.length - lz (dI l) := by rw [tF_drop, List.length_drop]
    refine ⟨?_, fun _ => ⟨?_, ?_, hlen, h1⟩⟩
    · unfold trimV sideV sideR
      rw [hz, if_neg hne]
      simp only [hne, if_false, Bool.false_eq_true]
    · unfold trimV; rw [if_neg hne]
    · unfold trimV; rw [if_neg hne]
      simp only [hft]; omega

theorem sideR_bd (m : Bool) (ds : List Int) : (sideR m ds = 0 ∧ ds.all (· == 0) = true) ∨ ((sideR m ds = 1 ∨ sideR m ds = -1) ∧ ds.all (· == 0) = false) := by
  unfold sideR
  cases h : ds.all (· == 0)
  · right; cases m <;> simp
  · left; simp
theorem less_plain {l : L8} {x : NP} (h : splitL l = some x) (hl : l.length ≤ 50000) (n : Int) (n0 : -9223372036854775808 ≤ n) (n1 : n ≤ 9223372036854775807) :
    lessR x.m (decide (n < 0)) (dI (x.w ++ x.f)) (dI (natD n)) ((x.w.length : Int) + expR x.e) ((natD n).length : Int) = cmpVV (readV x) (wnV n) := by
  obtain ⟨d1, d2, d3, _⟩ := split_dig h
  obtain ⟨s1, s2, s3⟩ := split_len h
  have hD : (x.w ++ x.f).all isDig = true := by rw [List.all_append, d1, d2]; rfl
  have hN : (natD n).all isDig = true := dd_dig _
  have hDl : (x.w ++ x.f).length ≤ 100000 := by rw [List.length_append]; omega
  have hE := exp_same x.e d3
  have h19 := natD_len19 n n0 n1
  obtain ⟨fa1, fa2⟩ := trim_facts x.m (x.w ++ x.f) ((x.w.length : Int) + powI x.e) hD
  obtain ⟨fb1, fb2⟩ := trim_facts (decide (n < 0)) (natD n) ((natD n).length : Int) hN
  have ga := fun h => dg_trim (l := x.w ++ x.f) h hD
  have gb := fun h => dg_trim (l := natD n) h hN
  have ea : readV x = trimV ⟨x.m, x.w ++ x.f, (x.w.length : Int) + powI x.e⟩ := rfl
  have eb : wnV n = trimV ⟨decide (n < 0), natD n, ((natD n).length : Int)⟩ := rfl
  rw [← ea] at fa1 fa2
  rw [← eb] at fb1 fb2
  have hw0 : 0 ≤ (x.w.length : Int) := by omega
  have hw1 : (x.w.length : Int) ≤ 50000 := by omega
  have ba := sideR_bd x.m (dI (x.w ++ x.f))
  have bb := sideR_bd (decide (n < 0)) (dI (natD n))
  have hla : (dI (x.w ++ x.f)).length = (x.w ++ x.f).length := dI_len _
  have hlb : (dI (natD n)).length = (natD n).length := dI_len _
  unfold lessR cmpVV
  rw [fa1, fb1]
  generalize readV x = a at *
  generalize wnV n = b at *
  generalize powI x.e = E at *
  generalize expR x.e = F at *
  generalize (x.w.length : Int) = P at *
  generalize x.w ++ x.f = D at *
  generalize natD n = M at *
  generalize sideR x.m (dI D) = sa at *
  generalize sideR (decide (n < 0)) (dI M) = sb at *
  by_cases c1 : sa < sb
  · rw [if_pos c1, if_pos c1]
  · by_cases c2 : sb < sa
    · rw [if_neg c1, if_pos c2, if_neg c1, if_pos c2]
    · rw [if_neg c1, if_neg c2, if_neg c1, if_neg c2]
      by_cases s0 : sa = 0
      · rw [if_pos s0, s0, Int.zero_mul]
      · rw [if_neg s0]
        have za : (dI D).all (· == 0) = false := by rcases ba with ⟨e, _⟩ | ⟨_, e⟩; exact absurd e s0; exact e
        have zb : (dI M).all (· == 0) = false := by rcases bb with ⟨e, _⟩ | ⟨_, e⟩; exact absurd (by omega) s0; exact e
        obtain ⟨a1, a2, a3, a4⟩ := fa2 za
        obtain ⟨b1, b2, b3, b4⟩ := fb2 zb
        have hta : topR (dI D) (P + F) = P + F - 1 - (lz (dI D) : Int) := rfl
        have htb : topR (dI M) (M.length : Int) = (M.length : Int) - 1 - (lz (dI M) : Int) := rfl
        have hza : lowR (dI D) (P + F) = P + F - 1 - ((D.length - 1 - tz (dI D) : Nat) : Int) := by unfold lowR; rw [hla]
        have hzb : lowR (dI M) (M.length : Int) = (M.length : Int) - 1 - ((M.length - 1 - tz (dI M) : Nat) : Int) := by unfold lowR; rw [hlb]
        by_cases ht : topR (dI D) (P + F) ≠ topR (dI M) (M.length : Int)
        · rw [if_pos ht]
          unfold sizeV
          rw [a2, b2]
          rw [hta, htb] at ht ⊢
          by_cases hlt : P + F - 1 - (lz (dI D) : Int) < (M.length : Int) - 1 - (lz (dI M) : Int)
          · rw [if_pos hlt, if_pos (by omega)]; omega
          · rw [if_neg hlt, if_neg (by omega), if_pos (by omega)]; omega
        · rw [if_neg ht]
          rw [hta, htb] at ht
          have hEF : E = F := by omega
          have hsz : sizeV a b = lexF a.d b.d 0 20 := by unfold sizeV; rw [if_neg (by omega), if_neg (by omega)]
          rw [hsz, lexF_LB, a1, b1, List.drop_zero, List.drop_zero]
          congr 1
          rw [lexD_LD (tB (tF D)) (tB (tF M)) (tB_all _ (tF_all _ hD)) (tB_all _ (tF_all _ hN)) _ _ (fun j => (ga za j).symm) (fun j => (gb zb j).symm), List.drop_zero, List.drop_zero]
          have hNN : (topR (dI D) (P + F) - min (lowR (dI D) (P + F)) (lowR (dI M) (M.length : Int)) + 1).toNat = max (tB (tF D)).length (tB (tF M)).length := by
            rw [hta, hza, hzb, a3, b3]; omega
          rw [hNN]
          exact (LB_LD _ _ 20 _ (tB_all _ (tF_all _ hD)) (tB_all _ (tF_all _ hN)) (tB_idem _) (tB_idem _) (by omega) (by omega) (by omega)).symm

end Go.Proofs.YtdfamphnilelnaaDoor

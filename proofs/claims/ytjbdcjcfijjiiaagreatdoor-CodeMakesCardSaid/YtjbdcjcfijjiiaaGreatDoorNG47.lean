/- NG47: We, Wf, Wk, Wl, Wm joined. -/
import Derived.Deep.QuietTactic
import Derived.Deep.CutBlock
import Derived.Deep.LoopGhost
import Derived.Test.YtjbdcjcfijjiiaaGreatDoorNG46
import Derived.Test.YtjbdcjcfijjiiaaGreatDoorNG04
namespace Go.Proofs.YtjbdcjcfijjiiaaGreatDoor
open Go.RowKit
/- utf.Scalar: the program's. -/
section
open Go.RowKit
set_option maxRecDepth 100000
set_option maxHeartbeats 4000000
theorem ret2_int {a b c d:Int}(h:(a,b)=(c,d)):Ending.returned (.tuple #[.int .i64 a,.int .i64 b])=.returned (.tuple #[.int .i64 c,.int .i64 d]):=by cases h;rfl
theorem ustep_at (st b t:Int)(w:World)(h0:0≤b)(h1:b<256)(h2:0≤st)(h3:st≤8)(ht:Hid (ustep st b=t)) :
  Calls Tryz.prog 91 #[.int .i64 st,.int .u8 b] w fun e w'=>e=.returned (.int .i64 t)∧w=w':=by
 rw [←ht.out];exact ustep_any st b w h0 h1 h2 h3
theorem ulead_at (b t:Int)(w:World)(h0:0≤b)(h1:b<256)(ht:Hid (ulead b=t)) :
  Calls Tryz.prog 92 #[.int .u8 b] w fun e w'=>e=.returned (.int .i64 t)∧w=w':=by
 rw [←ht.out];exact ulead_any b w h0 h1
theorem us_n0 (b:Int):ustep 0 b=8∨(ustep 0 b=0∧b<128)∨(194≤b∧1≤ustep 0 b∧ustep 0 b≤7):=by unfold ustep ufirst;(repeat' split) <;> omega
theorem us_n1 (st b:Int)(h:1≤st∧st≤7):ustep st b=8∨ustep st b=0∨ustep st b=1∨ustep st b=2:=by unfold ustep;(repeat' split) <;> omega
theorem us_n2 (st b:Int)(h:st=1∨st=2):ustep st b=8∨ustep st b=0∨ustep st b=1:=by unfold ustep;(repeat' split) <;> omega
theorem us_n3 (st b:Int)(h:st=1):ustep st b=8∨ustep st b=0:=by unfold ustep;(repeat' split) <;> omega
def SCI (i:Nat)(st c:Int):Prop:=(i=0∧st=0∧c=0)∨(i=1∧(1≤st∧st≤7)∧0≤c∧c<64)∨(i=2∧(st=1∨st=2)∧0≤c∧c<4096)∨(i=3∧st=1∧0≤c∧c<262144)
theorem SCI.next {i:Nat}{st c b t:Int}(h:SCI i st c)(hi:0<i)(ht:ustep st b=t)(h8:t≠8)(h0:t≠0):SCI (i+1) t (c*64+b % 64):=by
 subst ht
 unfold SCI at *
 rcases h with h|h|h|h
 ·omega
 ·have:=us_n1 st b h.2.1;omega
 ·have:=us_n2 st b h.2.1;omega
 ·have:=us_n3 st b h.2.1;omega
theorem SCI.bd {i:Nat}{st c:Int}(h:SCI i st c):0≤st∧st≤8∧0≤c∧c<262144∧i≤3:=by unfold SCI at h;omega
theorem uscal_any (s:ByteArray)(w:World)(hs:s.size≤maxLen) :
  Calls Tryz.prog 74 #[.string s] w fun e w'=>e=.returned (.tuple #[.int .i64 (scalV s.data.toList).1,.int .i64 (scalV s.data.toList).2])∧w=w':=by
 have hs:=id hs
 unfold maxLen at hs
 have HV:=hH (usc_scal s.data.toList)
 go_enter Tryz.func74, Tryz.ntmps74
 go_wp2
 go_loop [4,5,10] (fun t u v=>∃(i:Nat) (st c:Int),i≤s.size∧SCI i st c∧Hid (uscF s.data.toList 0 0 0=uscF (dr s i) i st c)∧t=.int .i64 st∧u=.int .i64 c∧v=.int .i64 i) (fun _ _ v=>s.size-(intOf v).toNat)
 case atStart=>exact⟨0,0,0,Nat.zero_le _,.inl ⟨rfl,rfl,rfl⟩,hH rfl,rfl,rfl,rfl⟩
 case round =>
  obtain⟨i,st,c,hi,hI,HR,rfl,rfl,rfl⟩:=hrel
  obtain⟨hb1,hb2,hb3,hb4,hb5⟩:=hI.bd
  by_cases hlt:i<s.size
  ·have hb:=s[i].toNat_lt
   obtain⟨t,ht⟩:∃t,ustep st s[i].toNat=t:=⟨_,rfl⟩
   have hdc:dr s i=s[i]::dr s (i+1):=drop_cons s i hlt
   by_cases h8:t=8
   ·have HE:=hH (show scalV s.data.toList=(0,0) by rw [←HV.out,HR.out,hdc,uscF_dead _ _ _ _ _ (ht.trans h8)])
    subst h8
    have HT:=hH ht
    clear ht hdc HV HR
    go_wp2_with (go_at_call 91;refine(ustep_at _ _ _ _ (by omega) (by omega) (by omega) (by omega) HT).mono ?_;rintro e w' ⟨rfl,rfl⟩)
    go_ret2
    exact⟨ret2_int (by rw [HE.out]),rfl⟩
   ·have k8:(t==8)=false:=by simpa using h8
    by_cases hi0:i=0
    ·have HI0:=hH hi0
     have hst:st=0:=by unfold SCI at hI;omega
     have hc:c=0:=by unfold SCI at hI;omega
     subst hst hc
     have hn:=us_n0 s[i].toNat
     rw [ht] at hn
     by_cases h0:t=0
     ·have HE:=hH (show scalV s.data.toList=((s[i].toNat:Int),(i:Int)+1) by
       rw [←HV.out,HR.out,hdc,uscF_end _ _ _ _ _ (ht.trans h0),uadd,if_neg (by omega),if_pos (by omega)])
      have hl:(s[i].toNat:Int)<128:=by omega
      subst h0
      have HT:=hH ht
      have hi0':decide (0<i)=false:=by simpa using hi0
      clear ht hdc HV HR h8 hi0
      go_wp2_with (go_at_call 91;refine(ustep_at _ _ _ _ (by omega) (by omega) (by omega) (by omega) HT).mono ?_;rintro e w' ⟨rfl,rfl⟩)
      go_ret2
      exact⟨ret2_int (by rw [HE.out]),rfl⟩
     ·have k0:(t==0)=false:=by simpa using h0
      have hl:194≤(s[i].toNat:Int):=by omega
      have ht7:1≤t∧t≤7:=by omega
      have HN:=hH (uscF_go s[i] (dr s (i+1)) i 0 0 t ht h0 h8)
      have hi0':decide (0<i)=false:=by simpa using hi0
      have HT:=hH ht
      clear ht hn h8 h0
      by_cases hx:(s[i].toNat:Int)<224
      ·have HL:=hH (show ulead s[i].toNat=1 by unfold ulead;(repeat' split) <;> omega)
       have ha:bits .and .i64 (s[i].toNat:Int) 31=(s[i].toNat:Int) % 32:=and31 _ (by omega) (by omega)
       have HR:=hH (show uscF s.data.toList 0 0 0=uscF (dr s (i+1)) (i+1) t ((s[i].toNat:Int) % 32) by
        rw [HR.out,hdc,HN.out,uadd,if_neg (by omega),if_neg (by omega),if_neg (by omega),if_neg (by omega)])
       clear hdc HN hi0
       go_wp2_with (first|(go_at_call 91;refine(ustep_at _ _ _ _ (by omega) (by omega) (by omega) (by omega) HT).mono ?_;rintro e w' ⟨rfl,rfl⟩)|(go_at_call 92;refine(ulead_at _ _ _ (by omega) (by omega) HL).mono ?_;rintro e w' ⟨rfl,rfl⟩))
       go_round
       case rel=>exact⟨i+1,t,_,by omega,.inr (.inl ⟨by rw [HI0.out],ht7,by omega,by omega⟩),HR,rfl,by go_num,by go_num⟩
       case measure=>simp [intOf];omega
      ·by_cases hx2:(s[i].toNat:Int)<240
       ·have HL:=hH (show ulead s[i].toNat=2 by unfold ulead;(repeat' split) <;> omega)
        have ha:bits .and .i64 (s[i].toNat:Int) 15=(s[i].toNat:Int) % 16:=and15 _ (by omega) (by omega)
        have HR:=hH (show uscF s.data.toList 0 0 0=uscF (dr s (i+1)) (i+1) t ((s[i].toNat:Int) % 16) by
         rw [HR.out,hdc,HN.out,uadd,if_neg (by omega),if_neg (by omega),if_neg (by omega),if_pos (by omega)])
        clear hdc HN hi0
        go_wp2_with (first|(go_at_call 91;refine(ustep_at _ _ _ _ (by omega) (by omega) (by omega) (by omega) HT).mono ?_;rintro e w' ⟨rfl,rfl⟩)|(go_at_call 92;refine(ulead_at _ _ _ (by omega) (by omega) HL).mono ?_;rintro e w' ⟨rfl,rfl⟩))
        go_round
        case rel=>exact⟨i+1,t,_,by omega,.inr (.inl ⟨by rw [HI0.out],ht7,by omega,by omega⟩),HR,rfl,by go_num,by go_num⟩
        case measure=>simp [intOf];omega
       ·have HL:=hH (show ulead s[i].toNat=3 by unfold ulead;(repeat' split) <;> omega)
        have ha:bits .and .i64 (s[i].toNat:Int) 7=(s[i].toNat:Int) % 8:=and7 _ (by omega) (by omega)
        have HR:=hH (show uscF s.data.toList 0 0 0=uscF (dr s (i+1)) (i+1) t ((s[i].toNat:Int) % 8) by
         rw [HR.out,hdc,HN.out,uadd,if_neg (by omega),if_neg (by omega),if_pos (by omega)])
        clear hdc HN hi0
        go_wp2_with (first|(go_at_call 91;refine(ustep_at _ _ _ _ (by omega) (by omega) (by omega) (by omega) HT).mono ?_;rintro e w' ⟨rfl,rfl⟩)|(go_at_call 92;refine(ulead_at _ _ _ (by omega) (by omega) HL).mono ?_;rintro e w' ⟨rfl,rfl⟩))
        go_round
        case rel=>exact⟨i+1,t,_,by omega,.inr (.inl ⟨by rw [HI0.out],ht7,by omega,by omega⟩),HR,rfl,by go_num,by go_num⟩
        case measure=>simp [intOf];omega
    ·have hi1:0<i:=by omega
     have ha:bits .and .i64 (s[i].toNat:Int) 63=(s[i].toNat:Int) % 64:=and63 _ (by omega) (by omega)
     have ho:bits .or .i64 (c*64) ((s[i].toNat:Int) % 64)=c*64+(s[i].toNat:Int) % 64:=orI 6 _ _ (by omega) (by omega) (by omega) (by omega) (by omega) (by omega)
     by_cases h0:t=0
     ·have HE:=hH (show scalV s.data.toList=(c*64+(s[i].toNat:Int) % 64,(i:Int)+1) by
       rw [←HV.out,HR.out,hdc,uscF_end _ _ _ _ _ (ht.trans h0),uadd,if_pos hi1])
      subst h0
      have HT:=hH ht
      clear ht hdc HV HR h8
      go_wp2_with (go_at_call 91;refine(ustep_at _ _ _ _ (by omega) (by omega) (by omega) (by omega) HT).mono ?_;rintro e w' ⟨rfl,rfl⟩)
      go_ret2
      exact⟨ret2_int (by rw [HE.out]),rfl⟩
     ·have k0:(t==0)=false:=by simpa using h0
      have hI':=hI.next hi1 ht h8 h0
      have HR:=hH (show uscF s.data.toList 0 0 0=uscF (dr s (i+1)) (i+1) t (c*64+(s[i].toNat:Int) % 64) by
       rw [HR.out,hdc,uscF_go _ _ _ _ _ t ht h0 h8,uadd,if_pos hi1])
      have HT:=hH ht
      clear ht hdc h8 h0
      go_wp2_with (go_at_call 91;refine(ustep_at _ _ _ _ (by omega) (by omega) (by omega) (by omega) HT).mono ?_;rintro e w' ⟨rfl,rfl⟩)
      go_round
      case rel=>exact⟨i+1,t,_,by omega,hI',HR,rfl,by go_num,by go_num⟩
      case measure=>simp [intOf];omega
  ·have HE:=hH (show scalV s.data.toList=(0,0) by rw [←HV.out,HR.out,show dr s i=[] from drop_nil s i (by omega)];rfl)
   clear HV HR
   go_wp2
   go_ret2
   exact⟨ret2_int (by rw [HE.out]),rfl⟩
end
/- qlex: digit, letter, nameLen, numberOf. -/
section
open Go.RowKit
set_option maxRecDepth 100000
set_option maxHeartbeats 2000000
theorem qdig_any (c:Int)(w:World) :
  Calls Tryz.prog 55 #[.int .u8 c] w fun e w'=>e=.returned (.bool (digB c))∧w=w':=by
 unfold digB
 go_enter Tryz.func55, Tryz.ntmps55
 go_wp2
 all_goals (go_ret;exact⟨ret_bool (by refine Bool.eq_iff_iff.2 ?_;simp <;> omega),rfl⟩)
theorem qdig_at (c:Int)(b:Bool)(w:World)(h:Hid (digB c=b)) :
  Calls Tryz.prog 55 #[.int .u8 c] w fun e w'=>e=.returned (.bool b)∧w=w':=by
 rw [←h.out];exact qdig_any c w
theorem uscal_at (s:ByteArray)(c n:Int)(w:World)(hs:s.size≤maxLen)(h:Hid (scalV s.data.toList=(c,n))) :
  Calls Tryz.prog 74 #[.string s] w fun e w'=>e=.returned (.tuple #[.int .i64 c,.int .i64 n])∧w=w':=by
 have:=uscal_any s w hs
 rw [h.out] at this;exact this
theorem letter_any (s:ByteArray)(w:World)(hs:s.size≤maxLen) :
  Calls Tryz.prog 80 #[.string s] w fun e w'=>e=.returned (.int .i64 (letL s.data.toList:Nat))∧w=w':=by
 have hb:=scalV_len s.data.toList
 obtain⟨c,n,hcn⟩:∃c n,scalV s.data.toList=(c,n):=⟨_,_,rfl⟩
 have HE:=hH (show letL s.data.toList=if isLet c && decide (0<n) then n.toNat else 0 by rw [letL,hcn])
 rw [hcn] at hb
 obtain⟨h0,_,h1⟩:=hb
 simp only at h0 h1
 have HS:=hH hcn
 clear hcn
 go_enter Tryz.func80, Tryz.ntmps80
 go_wp2_with (go_at_call 74;refine(uscal_at _ _ _ _ hs HS).mono ?_;rintro e w' ⟨rfl,rfl⟩)
 all_goals
  go_ret
  exact⟨ret_int (by
   rw [HE.out];unfold isLet
   (try simp only [beq_iff_eq,beq_eq_false_iff_ne,ne_eq,decide_eq_true_eq,Bool.or_eq_true,Bool.and_eq_true] at *)
   split <;> omega),rfl⟩
theorem letter_at (s:ByteArray)(m:Nat)(w:World)(hs:s.size≤maxLen)(h:Hid (letL s.data.toList=m)) :
  Calls Tryz.prog 80 #[.string s] w fun e w'=>e=.returned (.int .i64 m)∧w=w':=by
 rw [←h.out];exact letter_any s w hs
theorem nameLen_any (s:ByteArray)(w:World)(hs:s.size≤9223372036854775000) :
  Calls Tryz.prog 57 #[.string s] w fun e w'=>e=.returned (.int .i64 (nameL s.data.toList:Nat))∧w=w':=by
 obtain⟨m,hm⟩:∃m,letL s.data.toList=m:=⟨_,rfl⟩
 have hml:m≤s.size:=by rw [←hm,←len_toList];exact letL_le _
 have HN:=hH (show nameL s.data.toList=if m=0 then 0 else m+namF s.size (dr s m) by rw [nameL,hm,len_toList];rfl)
 have HM:=hH hm
 clear hm
 have hsx:s.size≤maxLen:=by unfold maxLen;omega
 by_cases h0:m=0
 ·have HE:=hH (show nameL s.data.toList=0 by rw [HN.out,if_pos h0])
  subst h0
  clear HN
  go_enter Tryz.func57, Tryz.ntmps57
  go_wp2_with (go_at_call 80;refine(letter_at _ _ _ hsx HM).mono ?_;rintro e w' ⟨rfl,rfl⟩)
  go_loop [3] (fun v=>v=.int .i64 0) (fun _=>0)
  case atStart=>rfl
  case round =>
   obtain rfl:=hrel
   go_wp2
   go_ret
   exact⟨ret_int (by rw [HE.out];rfl),rfl⟩
 ·have hm0:0<m:=by omega
  have HE:=hH (show nameL s.data.toList=m+namF s.size (dr s m) by rw [HN.out,if_neg h0])
  clear h0 HN
  go_enter Tryz.func57, Tryz.ntmps57
  go_wp2_with (go_at_call 80;refine(letter_at _ _ _ hsx HM).mono ?_;rintro e w' ⟨rfl,rfl⟩)
  go_loop [3] (fun v=>∃p f:Nat,0<p∧p≤s.size∧s.size≤p+f∧v=.int .i64 p∧Hid (nameL s.data.toList=p+namF f (dr s p))) (fun v=>s.size-(intOf v).toNat)
  case atStart=>exact⟨m,s.size,hm0,hml,by omega,rfl,HE⟩
  case round =>
   obtain⟨p,f,hp0,hp,hf,rfl,HP⟩:=hrel
   by_cases hlt:p<s.size
   ·obtain⟨k,hk⟩:∃k,letL (dr s p)=k:=⟨_,rfl⟩
    have HK:=hH (show letL (s.extract p s.size).data.toList=k by rw [ext_drop];exact hk)
    have hkl:p+k≤s.size:=by have:=letL_le (dr s p);rw [hk,dr,List.length_drop,len_toList] at this;omega
    have hes:(s.extract p s.size).size≤maxLen:=by simp;unfold maxLen;omega
    have hxr:letR (dr s p)=if k=0 then (if isDig s[p] then 1 else 0) else k:=by
     unfold letR;rw [hk,dr,drop_cons s p hlt]
    have hbi:=s[p].toNat_lt
    obtain⟨f',rfl⟩:∃f',f=f'+1:=⟨f-1,by omega⟩
    by_cases hk0:k=0
    ·rw [if_pos hk0] at hxr
     have HK0:=hH hk0
     cases hb:digB (s[p].toNat:Int) with
     | true =>
      rw [digB_eq] at hb
      rw [if_pos hb] at hxr
      have HP:=hH (show nameL s.data.toList=(p+1:Nat)+namF f' (dr s (p+1)) by rw [HP.out,namF_go f' _ 1 hxr (by omega),dr_dr];omega)
      have HB:=hH (show digB (s[p].toNat:Int)=true by rw [digB_eq];exact hb)
      subst hk0
      clear hb hxr hk
      go_wp2_with (first|(go_at_call 80;refine(letter_at _ _ _ hes HK).mono ?_;rintro e w' ⟨rfl,rfl⟩)|(go_at_call 55;refine(qdig_at _ _ _ HB).mono ?_;rintro e w' ⟨rfl,rfl⟩))
      go_round
      case rel=>exact⟨p+1,f',by omega,by omega,by omega,by go_num,HP⟩
      case measure=>simp [intOf] <;> omega
     | false =>
      rw [digB_eq] at hb
      have HP:=hH (show nameL s.data.toList=p by rw [HP.out,namF_stop _ _ (by rw [hxr,hb];rfl)];rfl)
      have HB:=hH (show digB (s[p].toNat:Int)=false by rw [digB_eq];exact hb)
      subst hk0
      clear hb hxr hk
      go_wp2_with (first|(go_at_call 80;refine(letter_at _ _ _ hes HK).mono ?_;rintro e w' ⟨rfl,rfl⟩)|(go_at_call 55;refine(qdig_at _ _ _ HB).mono ?_;rintro e w' ⟨rfl,rfl⟩))
      go_ret
      exact⟨ret_int (by rw [HP.out]),rfl⟩
    ·have hk1:0<k:=by omega
     rw [if_neg hk0] at hxr
     have HP:=hH (show nameL s.data.toList=(p+k:Nat)+namF f' (dr s (p+k)) by rw [HP.out,namF_go f' _ k hxr hk0,dr_dr];omega)
     have hk2:((k:Int)==0)=false:=by simp;omega
     clear hk0 hxr hk
     go_wp2_with (first|(go_at_call 80;refine(letter_at _ _ _ hes HK).mono ?_;rintro e w' ⟨rfl,rfl⟩))
     go_round
     case rel=>exact⟨p+k,f',by omega,by omega,by omega,by go_num,HP⟩
     case measure=>simp [intOf] <;> omega
   ·have HP:=hH (show nameL s.data.toList=p by rw [HP.out,namF_stop _ _ (by rw [dr,drop_nil s p (by omega)];exact letR_nil)];rfl)
    go_wp2
    go_ret
    exact⟨ret_int (by rw [HP.out]),rfl⟩
end
/- qlex: char (text's closure), text. -/
section
open Go.RowKit
set_option maxRecDepth 100000
set_option maxHeartbeats 2000000
theorem escaped_q (c mark:UInt8)(u:Int)(w:World)(h:Hid (uval (escV mark c)=u)) :
  Calls Tryz.prog 76 #[.int .u8 (c.toNat:Int),.int .u8 (mark.toNat:Int)] w fun e w'=>e=.returned (.int .i64 u)∧w'=w:=by
 rw [←h.out];exact(escaped_any c mark w).mono fun _ _ ⟨h1,h2⟩=>⟨h1,h2.symm⟩
theorem char_any (b1 b5 b4 p:Nat)(s:ByteArray)(mark:UInt8)(w:World)(hs:s.size≤1000000)(hp:p<s.size)(c1:w.cell? ⟨b1,0,none⟩=some (.string s))(c5:w.cell? ⟨b5,0,none⟩=some (.int .i64 p))(c4:w.cell? ⟨b4,0,none⟩=some (.int .u8 mark.toNat)) :
  Calls Tryz.prog 73 #[.pointer (some ⟨b1,0,none⟩),.pointer (some ⟨b5,0,none⟩),.pointer (some ⟨b4,0,none⟩)] w fun e w'=>ChE (charT mark (dr s p)) e∧∃n,w'=w.drewN n:=by
 have hbi:=s[p].toNat_lt
 have hmk:=mark.toNat_lt
 have hzp:(s.extract p s.size).size≤maxLen:=by simp;unfold maxLen;omega
 by_cases h1:(s[p].toNat:Int)<32
 ·have HE:=hH (charT_ctl (mark:=mark) hp h1)
  go_enter Tryz.func73, Tryz.ntmps73
  go_wp2
  go_ret2
  exact⟨ChE.no HE.out _,0,rfl⟩
 ·by_cases h2:(s[p].toNat:Int)=92
  ·have hb:((s[p].toNat:Int) != 92)=false:=by simp [h2]
   have hb':((s[p].toNat:Int)==92)=true:=by simp [h2]
   by_cases h3:s.size≤p+1
   ·have HE:=hH (charT_end (mark:=mark) hp h2 h3)
    have h4:((p:Int)+1==(s.size:Int))=true:=by simp;omega
    clear h2 h3
    go_enter Tryz.func73, Tryz.ntmps73
    go_wp2
    go_ret2
    exact⟨ChE.no HE.out _,0,rfl⟩
   ·have hp1:p+1<s.size:=by omega
    have h4:((p:Int)+1==(s.size:Int))=false:=by simp;omega
    have h4':(p+1==s.size)=false:=by simp;omega
    have hbi1:=s[p+1].toNat_lt
    by_cases h5:(s[p+1].toNat:Int)=117
    ·have HE:=hH (charT_u (mark:=mark) hp1 h2 h5)
     have h6:((s[p+1].toNat:Int)==117)=true:=by simp [h5]
     have hu:=fun w=>units_any (s.extract p s.size) w (by simp;omega) (by simp;omega)
     have hx:dr (s.extract p s.size) 2=dr s (p+2):=by unfold dr;rw [ext_drop,List.drop_drop]
     rw [hx,←HE.out] at hu
     clear h2 h3 h5 hx
     cases hc:charT mark (dr s p) with
     | none =>
      rw [hc] at hu
      clear hc HE
      go_enter Tryz.func73, Tryz.ntmps73
      go_wp2_with (go_at_call 75;refine(hu _).mono ?_;rintro e w' ⟨⟨m,rfl⟩,rfl⟩)
      go_ret2
      exact⟨⟨_,rfl⟩,0,rfl⟩
     | some xn =>
      obtain⟨x,n⟩:=xn
      rw [hc] at hu
      clear hc HE
      go_enter Tryz.func73, Tryz.ntmps73
      go_wp2_with (go_at_call 75;refine(hu _).mono ?_;rintro e w' ⟨rfl,rfl⟩)
      go_ret2
      exact⟨rfl,0,rfl⟩
    ·have HX:=hH (charT_e (mark:=mark) hp1 h2 h5)
     have h6:((s[p+1].toNat:Int)==117)=false:=by simp [h5]
     obtain⟨u,hu⟩:∃u,uval (escV mark s[p+1])=u:=⟨_,rfl⟩
     have HE:=hH (show ChE (charT mark (dr s p)) (.returned (.tuple #[.int .i64 u,.int .i64 2])) by
      rw [HX.out,←hu]
      cases escV mark s[p+1] with
      | none=>exact⟨2,rfl⟩
      | some v=>exact rfl)
     have HU:=hH hu
     clear h2 h3 h5 hu HX
     go_enter Tryz.func73, Tryz.ntmps73
     go_wp2
     go_quiet ((go_at_call 76;exact Calls.quiet_of_same (escaped_q _ _ _ _ HU)))
     go_wp2
     go_ret2
     exact⟨HE.out,_,rfl⟩
  ·have hb:((s[p].toNat:Int) != 92)=true:=by simp [h2]
   have hb':((s[p].toNat:Int)==92)=false:=by simp [h2]
   obtain⟨c,n,hcn⟩:∃c n,scalV (dr s p)=(c,n):=⟨_,_,rfl⟩
   have hX:=charT_pl (mark:=mark) hp h1 h2
   have hv:=scalV_len (dr s p)
   rw [hcn] at hX hv
   simp only at hX hv
   have HS:=hH (show scalV (s.extract p s.size).data.toList=(c,n) by rw [ext_drop];exact hcn)
   have hn0:=hv.1
   clear hcn hv h2
   by_cases h3:n=0
   ·have HE:=hH (hX.trans (if_pos h3))
    subst h3
    clear hX
    go_enter Tryz.func73, Tryz.ntmps73
    go_wp2_with (go_at_call 74;refine(uscal_at _ _ _ _ hzp HS).mono ?_;rintro e w' ⟨rfl,rfl⟩)
    go_ret2
    exact⟨ChE.no HE.out _,0,rfl⟩
   ·have HE:=hH (hX.trans (if_neg h3))
    have h4:(n==0)=false:=by simp [h3]
    have HN:=hH (show n=(n.toNat:Int) by omega)
    clear hX h3
    go_enter Tryz.func73, Tryz.ntmps73
    go_wp2_with (go_at_call 74;refine(uscal_at _ _ _ _ hzp HS).mono ?_;rintro e w' ⟨rfl,rfl⟩)
    go_ret2
    exact⟨ChE.yes HE.out rfl HN.out,0,rfl⟩
end
/- qlex: text. -/
section
open Go.RowKit
theorem uput_at (c:Int)(w:World)(h:okS c) :
  Calls Tryz.prog 78 #[.int .i64 c] w fun e w'=>e=.returned (.string (bs (putV c)))∧Below w.heap.size w w':=by
 have h':=h
 unfold okS at h'
 rw [←put_val c h];exact uput_any c w h'.1 (by omega)
def TX (w wr:World)(s:ByteArray)(mark:UInt8)(p:Nat)(t:List UInt8):Prop :=
 Blk wr w.heap.size 9 #[.string s]∧Blk wr (w.heap.size+1) 5 #[.int .u8 mark.toNat]∧Blk wr (w.heap.size+1+1) 3 #[.int .i64 p]∧
 Lib.IsBuilder 138 5 (w.heap.size+1+1+1) (w.heap.size+1+1+1) (Lib.byteCells t) wr∧Bel w.heap.size w wr∧w.heap.size+1+1+1<wr.heap.size
theorem IsB_keep {T e:TypeId}{B b:Nat}{l:List Value}{w w':World}(h:Lib.IsBuilder T e B b l w)(hk:∀k,B≤k→k<w.heap.size→w'.heap[k]? = w.heap[k]?):Lib.IsBuilder T e B b l w':=by
 have key:∀p,Lib.BuilderAt T e B b p l w→Lib.BuilderAt T e B b p l w':=by
  rintro p ⟨hB,v,hb,hown,hne⟩
  refine⟨hB,v,(hk b hB ?_).trans hb,⟨hown.1,?_⟩,hne⟩
  ·rcases Nat.lt_or_ge b w.heap.size with h'|h'
   ·exact h'
   ·simp [Array.getElem?_eq_none h'] at hb
  ·rcases hown.2 with h|⟨g,cap,cur,h1,h2,h3,h4⟩
   ·exact .inl h
   ·exact .inr ⟨g,cap,cur,h1,h2,(hk g h2 (Array.getElem?_eq_some_iff.1 h3).1).trans h3,h4⟩
 exact h.elim (fun h=>.inl (key _ h)) (fun h=>.inr (key _ h))
theorem IsB_new (w:World)(T e:TypeId):Lib.IsBuilder T e w.heap.size w.heap.size [] (w.alloc (.cells #[.pointer none,.slice none 0 0] T)) :=
 .inl ⟨Nat.le_refl _,.slice none 0 0,heap_alloc_new w _,⟨by simp,.inl ⟨rfl,rfl⟩⟩,by simp [Value.ownBlock]⟩
theorem TX.start (w:World)(s:ByteArray)(mark:UInt8):TX w ((((w.alloc (.cells #[.string s] 9)).alloc (.cells #[.int .u8 mark.toNat] 5)).alloc (.cells #[.int .i64 1] 3)).alloc (.cells #[.pointer none,.slice none 0 0] 138)) s mark 1 []:=by
 refine⟨(((Blk.new w _ _).alloc _).alloc _).alloc _,?_,?_,?_,(((((Bel.refl _ _).alloc (Nat.le_refl _) _).alloc (by simp) _).alloc (by simp;omega) _).alloc (by simp;omega) _),by simp⟩
 ·have:=Blk.new (w.alloc (.cells #[.string s] 9)) 5 #[.int .u8 mark.toNat]
  rw [show (w.alloc (.cells #[.string s] 9)).heap.size=w.heap.size+1 by simp] at this
  exact(this.alloc _).alloc _
 ·have:=Blk.new ((w.alloc (.cells #[.string s] 9)).alloc (.cells #[.int .u8 mark.toNat] 5)) 3 #[.int .i64 1]
  rw [show ((w.alloc (.cells #[.string s] 9)).alloc (.cells #[.int .u8 mark.toNat] 5)).heap.size=w.heap.size+1+1 by simp] at this
  exact this.alloc _
 ·have:=IsB_new (((w.alloc (.cells #[.string s] 9)).alloc (.cells #[.int .u8 mark.toNat] 5)).alloc (.cells #[.int .i64 1] 3)) 138 5
  rw [show (((w.alloc (.cells #[.string s] 9)).alloc (.cells #[.int .u8 mark.toNat] 5)).alloc (.cells #[.int .i64 1] 3)).heap.size=w.heap.size+1+1+1 by simp] at this
  exact this
theorem TX.bel {w wr w2:World}{s:ByteArray}{mark:UInt8}{p:Nat}{t:List UInt8}(h:TX w wr s mark p t)(hb:Bel wr.heap.size wr w2):TX w w2 s mark p t :=
 ⟨h.1.bel hb h.1.lt,h.2.1.bel hb h.2.1.lt,h.2.2.1.bel hb h.2.2.1.lt,IsB_keep h.2.2.2.1 (fun k _ hk=>hb.block k hk),h.2.2.2.2.1.next hb,Nat.lt_of_lt_of_le h.2.2.2.2.2 hb.size⟩
theorem TX.wrote {w wr w2:World}{s:ByteArray}{mark:UInt8}{p:Nat}{t u:List UInt8}(h:TX w wr s mark p t)(h1:Lib.IsBuilder 138 5 (w.heap.size+1+1+1) (w.heap.size+1+1+1) (Lib.byteCells t++Lib.strCells (bs u)) w2)(h2:Below (w.heap.size+1+1+1) wr w2):TX w w2 s mark p (t++u):=by
 have hb:=Bel.of h2
 refine⟨h.1.bel hb (by omega),h.2.1.bel hb (by omega),h.2.2.1.bel hb (by omega),?_,h.2.2.2.2.1.trans (hb.mono (by omega)),Nat.lt_of_lt_of_le h.2.2.2.2.2 hb.size⟩
 rw [Lib.strCells_eq,bs_list] at h1
 rw [show Lib.byteCells (t++u)=Lib.byteCells t++Lib.byteCells u by simp [Lib.byteCells]]
 exact h1
theorem TX.moved {w wr:World}{s:ByteArray}{mark:UInt8}{p:Nat}{t:List UInt8}(h:TX w wr s mark p t)(q:Nat):TX w (wr.setCell ⟨w.heap.size+1+1,0,none⟩ (.int .i64 q)) s mark q t :=
 ⟨h.1.far (by simp <;> omega) _,h.2.1.far (by simp) _,h.2.2.1.set_ 0 _,IsB_keep h.2.2.2.1 (fun k hk _=>Below.heap_setCell wr _ _ k (by simp;omega)),h.2.2.2.2.1.setCell (by simp <;> omega) _,by simpa using h.2.2.2.2.2⟩
end
/- qlex: text, walked. -/
section
open Go.RowKit
set_option maxRecDepth 100000
set_option maxHeartbeats 4000000
def TxE (o:Option (List UInt8×Nat))(e:Ending):Prop :=
 match o with
 | none=>e=.returned (.tuple #[.string ⟨#[]⟩,.int .i64 0])
 | some (t,k)=>e=.returned (.tuple #[.string (bs t),.int .i64 ((k+1:Nat):Int)])
theorem TxE.no {o:Option (List UInt8×Nat)}(h:o=none):TxE o (.returned (.tuple #[.string ⟨#[]⟩,.int .i64 0])):=by rw [h];rfl
theorem TxE.yes {o:Option (List UInt8×Nat)}{t:List UInt8}{k:Nat}{u:ByteArray}{m:Int}(h:o=some (t,k))(h1:u=bs t)(h2:m=((k+1:Nat):Int)):TxE o (.returned (.tuple #[.string u,.int .i64 m])):=by rw [h,h1,h2];rfl
def txR (f:Nat)(mark:UInt8)(s:ByteArray)(p:Nat)(t:List UInt8):Option (List UInt8×Nat):=(txtF f mark (dr s p)).map fun x=>(t++x.1,p-1+x.2)
theorem txR_none {f:Nat}{mark:UInt8}{s:ByteArray}{p:Nat}{t:List UInt8}(h:p<s.size)(hm:s[p]≠mark)(hc:charT mark (dr s p)=none):txR (f+1) mark s p t=none:=by
 unfold txR txtF
 rw [dr,drop_cons s p h] at hc ⊢
 simp only;rw [if_neg hm,hc];rfl
theorem txR_some {f:Nat}{mark:UInt8}{s:ByteArray}{p:Nat}{t:List UInt8}{x:Int}{n:Nat}(h:p<s.size)(hp:1≤p)(hm:s[p]≠mark)(hc:charT mark (dr s p)=some (x,n)):txR (f+1) mark s p t=txR f mark s (p+n) (t++putV x):=by
 unfold txR
 have e:dr s p=s[p]::dr s (p+1):=drop_cons s p h
 rw [←dr_dr s p n]
 rw [e] at hc ⊢
 rw [show txtF (f+1) mark (s[p]::dr s (p+1))=if s[p]=mark then some ([],1) else match charT mark (s[p]::dr s (p+1)) with|none=>none|some (x,n)=>(txtF f mark ((s[p]::dr s (p+1)).drop n)).map fun (t,k)=>(putV x++t,n+k) from rfl]
 simp only;rw [if_neg hm,hc]
 simp only [Option.map_map]
 congr 1
 funext y
 simp only [Function.comp,List.append_assoc,Prod.mk.injEq,true_and]
 omega
theorem txR_end {f:Nat}{mark:UInt8}{s:ByteArray}{p:Nat}{t:List UInt8}(h:s.size≤p):txR f mark s p t=none:=by
 unfold txR dr
 rw [drop_nil s p h]
 cases f <;> rfl
theorem txR_mark {f:Nat}{mark:UInt8}{s:ByteArray}{p:Nat}{t:List UInt8}(h:p<s.size)(hp:1≤p)(hm:s[p]=mark):txR (f+1) mark s p t=some (t,p):=by
 unfold txR txtF
 rw [dr,drop_cons s p h]
 simp only;rw [if_pos hm]
 simp;omega
theorem text_any (s:ByteArray)(mark:UInt8)(w:World)(hs:s.size≤1000000)(h0:0<s.size)(hm:s[0]=mark) :
  Calls Tryz.prog 54 #[.string s] w fun e w'=>TxE (txtF s.size mark (dr s 1)) e∧Bel w.heap.size w w':=by
 have hmk:=mark.toNat_lt
 have hm0:(s[0].toNat:Int)=(mark.toNat:Int):=by rw [hm]
 go_enter Tryz.func54, Tryz.ntmps54
 go_wp2
 go_loopg [8,9] (s.size-1) (fun k _ _ wr=>∃(p f:Nat) (t:List UInt8),k=s.size-p∧1≤p∧p≤s.size∧s.size+1≤p+f∧t.length≤4*p∧Hid (txtF s.size mark (dr s 1)=txR f mark s p t)∧Hid (TX w wr s mark p t))
 case atStart=>exact⟨1,s.size,[],by omega,by omega,by omega,by omega,by simp,hH (by unfold txR;cases txtF s.size mark (dr s 1) with|none=>rfl|some x=>simp),hH (by rw [←hm];exact TX.start w s _)⟩
 case round =>
  obtain⟨p,f,t,hgk,hp1,hp,hf,ht,HF,HT⟩:=hrel
  have HGK:=hH hgk;clear hgk
  have c1:wr.cell? ⟨w.heap.size,0,none⟩=some (.string s):=HT.out.1.cell 0
  have c4:wr.cell? ⟨w.heap.size+1,0,none⟩=some (.int .u8 mark.toNat):=HT.out.2.1.cell 0
  have c5:wr.cell? ⟨w.heap.size+1+1,0,none⟩=some (.int .i64 p):=HT.out.2.2.1.cell 0
  have hsz:=HT.out.2.2.2.2.2
  obtain⟨f',rfl⟩:∃f',f=f'+1:=⟨f-1,by omega⟩
  by_cases hlt:p<s.size
  ·have hbi:=s[p].toNat_lt
   by_cases hx:s[p]=mark
   ·have HE:=hH (HF.out.trans (txR_mark (t:=t) (f:=f') hlt hp1 hx))
    have hb:((s[p].toNat:Int) != (mark.toNat:Int))=false:=by simp [hx]
    clear hx
    go_wp2
    go_quiet (fail)
    go_wp2
    go_region_with (go_at_call 79;refine(Tryz.Builder_String_any _ _ t _ (by exact HT.out.2.2.2.1) (by simp;omega)).mono ?_;rintro e w2 ⟨rfl,hbb⟩;have c6:w2.cell? ⟨w.heap.size+1+1,0,none⟩=some (.int .i64 p):=(hbb.cell (p:=⟨w.heap.size+1+1,0,none⟩) (by show w.heap.size+1+1<w.heap.size+1+1+1;omega)).trans c5)
    all_goals
     go_wp2
     go_ret2
     exact⟨TxE.yes HE.out (by rfl) (by rw [IntWalk.i64_in _ (by omega)];omega),(HT.out.2.2.2.2.1.drewN _).trans ((Bel.of hbb).mono (by omega))⟩
   ·have hb:((s[p].toNat:Int) != (mark.toNat:Int))=true:=by
     rw [bne_iff_ne];intro e;exact hx (UInt8.toNat_inj.1 (by omega))
    have hch:=fun w' h1 h2 h3=>char_any w.heap.size (w.heap.size+1+1) (w.heap.size+1) p s mark w' hs hlt h1 h2 h3
    cases hc:charT mark (dr s p) with
    | none =>
     have HE:=hH (HF.out.trans (txR_none (t:=t) (f:=f') hlt hx hc))
     rw [hc] at hch
     clear hc hx
     go_wp2
     go_quiet (fail)
     go_wp2_with (go_at_call 73;refine(hch _ (by exact c1) (by exact c5) (by exact c4)).mono ?_;rintro e w2 ⟨⟨m,rfl⟩,n2,rfl⟩)
     go_ret2
     exact⟨TxE.no HE.out,HT.out.2.2.2.2.1.drewN _⟩
    | some xm =>
     obtain⟨x,m⟩:=xm
     have hok:=charT_val _ _ _ _ hc
     obtain⟨hm0',hml⟩:=charT_len _ _ _ _ hc
     rw [dr,List.length_drop,len_toList] at hml
     have HF:=hH (HF.out.trans (txR_some (t:=t) (f:=f') hlt hp1 hx hc))
     rw [hc] at hch
     have hx0:0≤x:=hok.1
     have HOK:=hH hok
     have hlen:=putV_len x
     have HLB:=hH (show (Lib.byteCells t).length+(bs (putV x)).size≤140737488355328 by rw [Lib.byteCells_length,←len_toList,bs_list];omega)
     clear hc hx hok
     go_wp2
     go_quiet (fail)
     go_wp2_with (first
      | (go_at_call 73;refine(hch _ (by exact c1) (by exact c5) (by exact c4)).mono ?_;rintro e w2 ⟨rfl,n2,rfl⟩)
      | (go_at_call 78;refine(uput_at x _ HOK.out).mono ?_;rintro e w2 ⟨rfl,hb2⟩;have HT2:Hid (TX w w2 s mark p t):=hH (TX.bel HT.out (((Bel.refl wr.heap.size wr).drewN _).trans (Bel.of hb2))))
      | (go_at_call 77;refine(wrs_any _ _ (Lib.byteCells t) _ _ (by exact HT2.out.2.2.2.1) HLB.out (by have:=HT2.out.2.2.2.2.2;omega)).mono ?_;rintro e w3 ⟨rfl,hib,hb3⟩;have HT3:Hid (TX w w3 s mark p (t++putV x)):=hH (TX.wrote HT2.out hib hb3);have c6:=HT3.out.2.2.1.cell 0;have c7:=HT3.out.2.2.1.frozen 0))
     go_roundg (s.size-(p+m))
     case measure=>have:=HGK.out;simp;omega
     case rel=>exact⟨p+m,f',_,rfl,by omega,by omega,by omega,by simp;omega,HF,hH (by have:=HT3.out.moved (p+m);rw [Int.natCast_add] at this;exact this)⟩
  ·have HE:=hH (HF.out.trans (txR_end (t:=t) (f:=f'+1) (mark:=mark) (show s.size≤p by omega)))
   go_wp2
   go_quiet (fail)
   go_wp2
   go_ret2
   exact⟨TxE.no HE.out,HT.out.2.2.2.2.1.drewN _⟩
end

end Go.Proofs.YtjbdcjcfijjiiaaGreatDoor

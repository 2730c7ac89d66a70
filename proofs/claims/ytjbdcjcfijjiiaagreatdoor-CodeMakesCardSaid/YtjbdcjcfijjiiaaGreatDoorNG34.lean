/- NG34: Xh, Xi, Xj joined. -/
import Derived.Deep.QuietTactic
import Derived.Deep.LoopGhost
import Derived.Test.YtjbdcjcfijjiiaaGreatDoorNG33
import Derived.Test.YtjbdcjcfijjiiaaGreatDoorNG31
namespace Go.Proofs.YtjbdcjcfijjiiaaGreatDoor
open Go.RowKit
/- ref16: token: signs. -/
section
open Go.RowKit
set_option maxRecDepth 100000
set_option maxHeartbeats 4000000
theorem nin2' (s:ByteArray)(a:Nat)(h0:a<s.size)(hd:¬(isDig s[a]=true∨s[a]=45)):digN (dr s a)=0∧((s[a].toNat:Int)==45)=false:=by
 refine⟨?_,u8_ne (n:=45) (fun h=>hd (.inr h)) (by omega)⟩
 rw [show dr s a=s[a]::dr s (a+1) from drop_cons s a h0,digN,if_neg (fun h=>hd (.inl h))]
def SGm (w wr:World)(g:Nat):Prop:=RK w wr∧Blk wr g 9 sgA∧w.heap.size+1<g
theorem SGm.bel {w wr w2:World}{g:Nat}(h:SGm w wr g)(hb:Bel wr.heap.size wr w2):SGm w w2 g:=⟨h.1.bel hb,h.2.1.bel hb h.2.1.lt,h.2.2⟩
theorem rtok_sgn (s:ByteArray)(a:Nat)(w:World)(hs:s.size≤1000000)(h0:a<s.size)(hc:¬(s[a]=34∨s[a]=39))(hd_:¬(isDig s[a]=true∨s[a]=45))(hn:nameL (dr s a)=0) :
  Calls Tryz.prog 25 #[.string s,.int .i64 (a:Int)] w (ROne s a w):=by
 have HE:=hH (rT_sgn s a h0 hc hd_ hn)
 obtain⟨hq1,hq2⟩:=nine' s a h0 hc
 obtain⟨hd0,hq4⟩:=nin2' s a h0 hd_
 have hna:=fun w=>rname_any s a w hs (by omega)
 rw [hn] at hna
 simp only [Nat.add_zero] at hna
 have hda:=fun w=>rdigits_at s a 0 w hs (by omega) (hH hd0)
 have hbi:=s[a].toNat_lt
 have HR:=hH (RK.start w)
 clear hc hd_ hn hd0
 go_enter Tryz.func25, Tryz.ntmps25
 generalize hQ:bodyPost Tryz.prog Tryz.f25 (ROne s a w)=Q
 have HQ:=hH hQ;clear hQ
 go_upto_region 28 with(first|(go_at_call 44;refine(hna _).mono ?_;rintro e w2 ⟨rfl,hb⟩;have HR2:=hH (HR.out.bel hb);clear hb)|(go_at_call 45;refine(hda _).mono ?_;rintro e w' ⟨rfl,rfl⟩))
 have HS0:=hH (show SGm w (w2.alloc (.cells sgA 9)) w2.heap.size from⟨HR2.out.bel bel_lit,Blk.new _ _ _,HR2.out.2.1.lt⟩)
 go_upto_region 29 with fail
 rw [show #[Value.string ⟨#[46,46]⟩,Value.string ⟨#[38,38]⟩,Value.string ⟨#[124,124]⟩,Value.string ⟨#[61,61]⟩,Value.string ⟨#[33,61]⟩,Value.string ⟨#[60,61]⟩,Value.string ⟨#[62,61]⟩,Value.string ⟨#[36]⟩,Value.string ⟨#[64]⟩,Value.string ⟨#[46]⟩,Value.string ⟨#[91]⟩,Value.string ⟨#[93]⟩,Value.string ⟨#[40]⟩,Value.string ⟨#[41]⟩,Value.string ⟨#[42]⟩,Value.string ⟨#[44]⟩,Value.string ⟨#[58]⟩,Value.string ⟨#[63]⟩,Value.string ⟨#[33]⟩,Value.string ⟨#[60]⟩,Value.string ⟨#[62]⟩]=sgA from rfl]
 obtain⟨g,hg⟩:∃g,w2.heap.size=g:=⟨_,rfl⟩
 rw [hg] at HS0 ⊢
 generalize w2.alloc (.cells sgA 9)=w3 at HS0 ⊢
 clear hg HR2
 go_wp2
 go_loopg [17] 21 (fun k v wr=>∃i:Nat,k=21-i∧i≤21∧v=.int .i64 i∧Hid (∀j (hj:j<21),j<i→preB (dr s a) (signsL[j]'(by rw [sg_len];exact hj))=false)∧Hid (SGm w wr g))
 case atStart=>exact⟨0,by omega,by omega,rfl,hH (fun j _ h=>absurd h (by omega)),HS0⟩
 case round =>
  clear HS0
  obtain⟨i,hgk,hi,rfl,HI,HS⟩:=hrel
  have HGK:=hH hgk;clear hgk
  obtain⟨⟨z1,z2⟩,⟨c0,c1,c2,c3,c4⟩,⟨f0,f1,f2,f3,f4⟩,d0,d1,d2,d3,d4⟩:=HS.out.1.cells
  have hgl:=HS.out.2.1.lt
  by_cases hlt:i<21
  ·obtain⟨x,hx⟩:∃x,x=signsL[i]'(by rw [sg_len];exact hlt):=⟨_,rfl⟩
   have ci:wr.cell? ⟨g,i,none⟩=some (.string (bs x)):=by
    rw [HS.out.2.1.cell i,sgA_get i hlt,hx]
   have hxs:(bs x).size≤2∧0<(bs x).size:=by
    rw [←len_toList,bs_list,hx]
    exact⟨(show ∀y∈signsL,y.length≤2 by decide) _ (List.getElem_mem _),(show ∀y∈signsL,0<y.length by decide) _ (List.getElem_mem _)⟩
   have hxl:(bs x).size=x.length:=by rw [←len_toList,bs_list]
   obtain⟨m,hm⟩:∃m,(bs x).size=m:=⟨_,rfl⟩
   rw [hm] at hxs hxl
   obtain⟨hxs1,hxs2⟩:=hxs
   have HXL:=hH hxl
   have HX:=hH hx
   clear hxl hx
   have hi21:(i:Int)<21:=by omega
   by_cases hlen:a+m≤s.size
   ·have g1:(m:Int)≤(s.size:Int)-(a:Int):=by omega
    have q1:IntKind.i64.wrap ((a:Int)+(m:Int))=(a:Int)+(m:Int):=IntWalk.i64_in _ (by omega)
    have q2:0≤(a:Int)+(m:Int):=by omega
    have q3:((a:Int)+(m:Int)).toNat=a+m:=by omega
    have q4:(a:Int)+(m:Int)≤(s.size:Int):=by omega
    have q5:IntKind.i64.wrap ((s.size:Int)-(a:Int))=(s.size:Int)-(a:Int):=IntWalk.i64_in _ (by omega)
    have hd1:decide ((m:Int)≤(s.size:Int)-(a:Int))=true:=by simpa using g1
    cases hp:preB (dr s a) x with
    | true =>
     have HE:=hH (show tokT (dr s a)=.ok (1,x,0,x.length) by
      rw [HE.out,find_from (dr s a) i hlt (by rw [←HX.out];exact hp) HI.out,←HX.out])
     have hst:((s.extract a (a+m)).toList==(bs x).toList)=true:=str_t (bs_of (by rw [ext_mid,HXL.out];unfold preB at hp;simpa using hp))
     clear hp
     go_wp2
     go_quiet (fail)
     go_wp2
     rw [←HQ.out]
     exact bodyPost_ret (v:=.tuple #[.agg #[.int .i64 1,.string (bs x),.int .i64 0,.int .i64 (a:Nat),.bool false],.int .i64 ((a:Int)+(m:Int)),.int .i64 0]) (by simp [results,Tryz.results25,go_sem,d0,d1,d2,d3,d4]) rfl ⟨ROneE.yes HE.out rfl (by rw [←HXL.out];omega),bel_s5 (HS.out.1.2.2.drewN _)⟩
    | false =>
     have HI:=hH (show ∀j (hj:j<21),j<i+1→preB (dr s a) (signsL[j]'(by rw [sg_len];exact hj))=false by
      intro j hj hji
      by_cases e:j=i
      ·subst e;rw [←HX.out];exact hp
      ·exact HI.out j hj (by omega))
     have hst:((s.extract a (a+m)).toList==(bs x).toList)=false:=str_f (by
      intro e
      have e2:=congrArg (fun b:ByteArray=>b.data.toList) e
      simp only [bs_list] at e2
      rw [ext_mid,HXL.out] at e2
      unfold preB at hp
      rw [e2] at hp;simp at hp)
     clear hp
     go_wp2
     go_quiet (fail)
     go_wp2
     go_roundg (21-(i+1))
     case measure=>have:=HGK.out;simp;omega
     case rel=>exact⟨i+1,rfl,by omega,by go_num,HI,hH (HS.out.bel ((Bel.refl _ _).drewN _))⟩
   ·have g1:¬(m:Int)≤(s.size:Int)-(a:Int):=by omega
    have q5:IntKind.i64.wrap ((s.size:Int)-(a:Int))=(s.size:Int)-(a:Int):=IntWalk.i64_in _ (by omega)
    have hd1:decide ((m:Int)≤(s.size:Int)-(a:Int))=false:=by simpa using g1
    have HI:=hH (show ∀j (hj:j<21),j<i+1→preB (dr s a) (signsL[j]'(by rw [sg_len];exact hj))=false by
     intro j hj hji
     by_cases e:j=i
     ·subst e;rw [←HX.out]
      unfold preB
      rw [beq_eq_false_iff_ne]
      intro e2
      have e3:=congrArg List.length e2
      rw [List.length_take,dr,List.length_drop,len_toList] at e3
      have:=HXL.out
      omega
     ·exact HI.out j hj (by omega))
    go_wp2
    go_quiet (fail)
    go_wp2
    go_roundg (21-(i+1))
    case measure=>have:=HGK.out;simp;omega
    case rel=>exact⟨i+1,rfl,by omega,by go_num,HI,hH (HS.out.bel ((Bel.refl _ _).drewN _))⟩
  ·have HE:=hH (show tokT (dr s a)=.error 3 by rw [HE.out,find_no (dr s a) (fun j hj=>HI.out j hj (by omega))])
   go_wp2
   rw [←HQ.out]
   exact bodyPost_ret (v:=.tuple #[.agg #[.int .i64 0,.string ⟨#[]⟩,.int .i64 0,.int .i64 0,.bool false],.int .i64 0,.int .i64 3]) (by simp [results,Tryz.results25,go_sem,d0,d1,d2,d3,d4]) rfl ⟨ROneE.no HE.out,bel_s5 HS.out.1.2.2⟩
end
/- ref16: token, blank, Lex. -/
section
open Go.RowKit
set_option maxRecDepth 100000
set_option maxHeartbeats 4000000
theorem rtok_any (s:ByteArray)(a:Nat)(w:World)(hs:s.size≤1000000)(h0:a<s.size) :
  Calls Tryz.prog 25 #[.string s,.int .i64 (a:Int)] w (ROne s a w):=by
 by_cases hc:s[a]=34∨s[a]=39
 ·exact rtok_str s a w hs h0 hc
 ·by_cases hd_:isDig s[a]=true∨s[a]=45
  ·exact rtok_num s a w hs h0 hc hd_
  ·rcases Nat.eq_zero_or_pos (nameL (dr s a)) with hn|hn
   ·exact rtok_sgn s a w hs h0 hc hd_ hn
   ·exact rtok_nam s a w hs h0 hc hn
theorem rblank_any (c:UInt8)(w:World) :
  Calls Tryz.prog 24 #[.int .u8 (c.toNat:Int)] w fun e w'=>e=.returned (.bool (isBk c))∧w=w':=by
 have hc:=c.toNat_lt
 have key:∀n:UInt8,(c==n)=((c.toNat:Int)==(n.toNat:Int)):=fun n=>by rw [Bool.eq_iff_iff,beq_iff_eq,beq_iff_eq,←UInt8.toNat_inj];omega
 have HE:=hH (show isBk c=((c.toNat:Int)==32 || (c.toNat:Int)==9 || (c.toNat:Int)==10 || (c.toNat:Int)==13) by unfold isBk;rw [key,key,key,key];rfl)
 obtain⟨b0,h0⟩:∃b0,((c.toNat:Int)==32)=b0:=⟨_,rfl⟩
 obtain⟨b1,h1⟩:∃b1,((c.toNat:Int)==9)=b1:=⟨_,rfl⟩
 obtain⟨b2,h2⟩:∃b2,((c.toNat:Int)==10)=b2:=⟨_,rfl⟩
 obtain⟨b3,h3⟩:∃b3,((c.toNat:Int)==13)=b3:=⟨_,rfl⟩
 rw [h0,h1,h2,h3] at HE
 clear key
 cases b0 <;> cases b1 <;> cases b2 <;> cases b3
 all_goals
  go_enter Tryz.func24, Tryz.ntmps24
  go_wp2
  go_ret
  exact⟨ret_bool (by rw [HE.out];rfl),rfl⟩
theorem rblank_at (c:UInt8)(b:Bool)(w:World)(h:Hid (isBk c=b)) :
  Calls Tryz.prog 24 #[.int .u8 (c.toNat:Int)] w fun e w'=>e=.returned (.bool b)∧w=w':=by
 rw [←h.out];exact rblank_any c w
theorem rlex_long (s:ByteArray)(w:World)(hs:s.size≤1000000)(hlong:4096<s.size) :
  Calls Tryz.prog 12 #[.string s] w (LexP s.data.toList w):=by
 have HE:=hH (lexL_long (l:=s.data.toList) (by rw [len_toList];exact hlong))
 go_enter Tryz.func12, Tryz.ntmps12
 generalize hQ:bodyPost Tryz.prog Tryz.f12 (LexP s.data.toList w)=Q
 have HQ:=hH hQ;clear hQ
 go_wp2
 rw [←HQ.out]
 exact bodyPost_ret (v:=.tuple #[.slice none 0 0,.agg #[.int .i64 4,.int .i64 0]]) (by simp [results,Tryz.results12,go_sem]) rfl (LexP.no HE.out bel_lit)
end
/- ref16: Lex, walked. -/
section
open Go.RowKit
set_option maxRecDepth 100000
set_option maxHeartbeats 4000000
theorem bk_at {s:ByteArray}{a q:Nat}(h1:a≤q)(h2:q<a+bkN (dr s a)):∃h:q<s.size,isBk s[q]=true:=by
 have hl:=bkN_le (dr s a)
 rw [dr,List.length_drop,len_toList] at hl
 change bkN (dr s a)≤_ at hl
 have hq:q<s.size:=by omega
 refine⟨hq,?_⟩
 have:=bkN_take (dr s a) s[q] (by
  rw [List.mem_take_iff_getElem]
  refine⟨q-a,?_,?_⟩
  ·exact Nat.lt_min.2 ⟨by omega,by unfold dr;rw [List.length_drop,len_toList];omega⟩
  ·show (s.data.toList.drop a)[q-a]'(by rw [List.length_drop,len_toList];omega)=s[q]
   rw [List.getElem_drop]
   have:a+(q-a)=q:=by omega
   simp only [this];rfl)
 exact this
theorem bk_end {s:ByteArray}{a:Nat}(h:a+bkN (dr s a)<s.size):isBk s[a+bkN (dr s a)]=false:=by
 have h0:=bkN_zero (u:=dr s a) (by rw [dr_dr];exact dr_ne h)
 rw [dr_dr,show dr s (a+bkN (dr s a))=s[a+bkN (dr s a)]::dr s (a+bkN (dr s a)+1) from drop_cons s _ h] at h0
 cases hb:isBk s[a+bkN (dr s a)] with
 | false=>rfl
 | true=>unfold bkN at h0;rw [if_pos hb] at h0;omega
theorem rlex_any (s:ByteArray)(w:World)(hs:s.size≤1000000) :
  Calls Tryz.prog 12 #[.string s] w (LexP s.data.toList w):=by
 by_cases hlong:4096<s.size
 ·exact rlex_long s w hs hlong
 have HL:=hH (show ¬4096<s.data.toList.length by rw [len_toList];exact hlong)
 have HX0:=hH (LX.start w)
 obtain⟨i0,hi,hz0,hz1,hz2'⟩:=info_parts info_tok
 go_enter Tryz.func12, Tryz.ntmps12
 generalize hQ:bodyPost Tryz.prog Tryz.f12 (LexP s.data.toList w)=Q
 have HQ:=hH hQ;clear hQ
 go_wp2
 go_loopg [4,5] s.size (fun k v x wr=>∃(a f:Nat) (toks:List TokD),k=s.size-a∧a≤s.size∧s.size<a+f∧toks.length≤a∧x=.int .i64 a∧Hid (lexF (s.data.toList.length+1) 0 s.data.toList=pref toks (lexF f a (dr s a)))∧Hid (LX w wr v toks))
 case atStart=>exact⟨0,s.size+1,[],by omega,by omega,by omega,by simp,rfl,hH (by rw [pref_nil,len_toList];rfl),HX0⟩
 case round =>
  clear HX0
  obtain⟨a,f,toks,hgk,ha,hf,htl,rfl,HF,HX⟩:=hrel
  have HGK:=hH hgk;clear hgk
  by_cases hlt:a<s.size
  ·obtain⟨g,hg⟩:∃g,bkN (dr s a)=g:=⟨_,rfl⟩
   have hgl:a+g≤s.size:=by have:=bkN_le (dr s a);rw [hg,dr,List.length_drop,len_toList] at this;omega
   have HBA:=hH (fun q (h1:a≤q) (h2:q<a+g)=>bk_at (s:=s) h1 (by rw [hg];exact h2))
   have HBE:=hH (show ∀h:a+g<s.size,isBk s[a+g]=false by subst hg;exact fun h=>bk_end h)
   obtain⟨p,hp⟩:∃p,a+g=p:=⟨_,rfl⟩
   have HP:=hH hp
   have HG:=hH hg
   rw [hp] at hgl HBA HBE
   have hap:a≤p:=by omega
   obtain⟨f',rfl⟩:∃f',f=f'+1:=⟨f-1,by omega⟩
   clear hg
   go_wp2
   go_loop [5] (fun x=>∃q:Nat,a≤q∧q≤p∧x=.int .i64 q) (fun x=>p-(intOf x).toNat)
   case atStart=>exact⟨a,by omega,hap,rfl⟩
   case round =>
    obtain⟨q,hq1,hq2,rfl⟩:=hrel
    by_cases hqp:q<p
    ·obtain⟨hqs,hqb⟩:=HBA.out q hq1 hqp
     have hqi:=s[q].toNat_lt
     have HQB:=hH hqb
     clear hqb
     go_wp2_with (go_at_call 24;refine(rblank_at _ _ _ HQB).mono ?_;rintro e w' ⟨rfl,rfl⟩)
     go_round
     case rel=>exact⟨q+1,by omega,by omega,by go_num⟩
     case measure=>simp [intOf] <;> omega
    ·obtain rfl:q=p:=by omega
     have hqe:q<s.size→∃h:q<s.size,isBk s[q]=false:=fun h=>⟨h,HBE.out h⟩
     have HQE:=hH hqe
     clear hqe hqp hq1 hq2
     by_cases hbad:0<g∧(a=0∨s.size≤a+g)
     ·have HE:=hH (lexL_err HL.out (HF.out.trans (lex_gap (f:=f') (toks:=toks) hlt (by rw [HG.out];exact hbad.1) (by rw [HG.out];exact hbad.2))))
      obtain⟨hg0,hb2⟩:=hbad
      have haq:(a:Int)<(q:Int):=by omega
      obtain⟨x1,⟨x2,x3⟩,x4,x5⟩:=HX.out.1.two
      by_cases ha0:a=0
      ·have ha1:((a:Int)==0)=true:=by simp [ha0]
       clear ha0 hb2 hp
       by_cases hqs:q<s.size
       ·obtain⟨_,hqb⟩:=HQE.out hqs
        have hqi:=s[q].toNat_lt
        have HQB:=hH hqb
        clear hqb
        go_wp2_with (go_at_call 24;refine(rblank_at _ _ _ HQB).mono ?_;rintro e w' ⟨rfl,rfl⟩)
        rw [←HQ.out]
        exact bodyPost_ret (v:=.tuple #[.slice none 0 0,.agg #[.int .i64 3,.int .i64 a]]) (by simp [results,Tryz.results12,go_sem,x2,x3]) rfl (LexP.no HE.out (HX.out.stored _ _))
       ·go_wp2
        rw [←HQ.out]
        exact bodyPost_ret (v:=.tuple #[.slice none 0 0,.agg #[.int .i64 3,.int .i64 a]]) (by simp [results,Tryz.results12,go_sem,x2,x3]) rfl (LexP.no HE.out (HX.out.stored _ _))
      ·have ha1:((a:Int)==0)=false:=by simp [ha0]
       have hqs:¬q<s.size:=by omega
       have hqs':((q:Int)==(s.size:Int))=true:=by rw [beq_iff_eq];omega
       clear ha0 hb2 hp
       go_wp2
       rw [←HQ.out]
       exact bodyPost_ret (v:=.tuple #[.slice none 0 0,.agg #[.int .i64 3,.int .i64 a]]) (by simp [results,Tryz.results12,go_sem,x2,x3]) rfl (LexP.no HE.out (HX.out.stored _ _))
     ·have hqs:q<s.size:=by omega
      obtain⟨_,hqb⟩:=HQE.out hqs
      have hqi:=s[q].toNat_lt
      have HQB:=hH hqb
      have hqs':((q:Int)==(s.size:Int))=false:=by rw [beq_eq_false_iff_ne];omega
      have hon:=fun w=>rtok_any s q w hs hqs
      unfold ROne ROneE at hon
      have HBAD:=hH hbad
      have hgg:(¬(a:Int)<(q:Int)∧decide (0<g)=false)∨((a:Int)<(q:Int)∧decide (0<g)=true∧((a:Int)==0)=false):=by
       rcases Nat.eq_zero_or_pos g with h|h
       ·exact .inl ⟨by omega,by simp [h]⟩
       ·exact .inr ⟨by omega,by simpa using h,by rw [beq_eq_false_iff_ne];omega⟩
      clear hbad hqb
      cases htk:tokT (dr s q) with
      | error e =>
       have HE:=hH (show lexL s.data.toList=.error (e,q) by
        have:=lexL_err HL.out (HF.out.trans (lex_err (f:=f') (toks:=toks) hlt HG.out HBAD.out (by rw [HP.out];exact htk)))
        rw [HP.out] at this;exact this)
       rw [htk] at hon
       obtain⟨he0,he1⟩:=tokT_err htk
       clear htk hp
       rcases hgg with⟨hg1,-⟩|⟨hg1,-,hg2⟩
       all_goals
        go_wp2_with (first|(go_at_call 24;refine(rblank_at _ _ _ HQB).mono ?_;rintro e w' ⟨rfl,rfl⟩)|(go_at_call 25;refine(hon _).mono ?_;rintro e w2 ⟨rfl,hb⟩;have HX2:=hH (HX.out.bel hb);obtain⟨x1,⟨x2,x3⟩,x4,x5⟩:=HX2.out.1.two;clear hb;unfold tokWW))
        rw [←HQ.out]
        exact bodyPost_ret (v:=.tuple #[.slice none 0 0,.agg #[.int .i64 e,.int .i64 (q:Nat)]]) (by simp [results,Tryz.results12,go_sem,x1,x2,x3]) rfl (LexP.no HE.out ((HX2.out.stored _ _).alloc (by simp;omega) _))
      | ok kt =>
       obtain⟨k,t,v,n⟩:=kt
       have HF:=hH (HF.out.trans (lex_go (f:=f') (toks:=toks) hlt HG.out HBAD.out (by rw [HP.out];exact htk)))
       rw [HP.out] at HF
       obtain⟨hn0,hn1,_⟩:=tokT_ok _ _ _ _ _ htk
       rw [dr,List.length_drop,len_toList] at hn1
       rw [htk] at hon
       have hqn:q+n≤s.size:=by omega
       clear htk hn1 hp
       rcases hgg with⟨hg1,hgd⟩|⟨hg1,hgd,hg2⟩
       ·have HGD:=hH hgd
        clear hgd
        go_wp2_with (first
         | (go_at_call 24;refine(rblank_at _ _ _ HQB).mono ?_;rintro e w' ⟨rfl,rfl⟩)
         | (go_at_call 25;refine(hon _).mono ?_;rintro e w2 ⟨rfl,hb⟩;have HX2:=hH (HX.out.bel hb);have hz2:=HX2.out.2.2.2;clear hb;unfold tokWW)
         | (at_builtin;refine wpList_append_any _ rfl (.tmp 62) (.tmp 64) 50 rfl (w.heap.size+1) 72 i0 _ 5 48 Tryz.underlying50 hi hz0 hz1 hz2' rfl (by decide) _ _ _ rfl (HX2.out.bel bel_lit2).2.1 (w2.heap.size+1+1) (some ⟨w2.heap.size+1,0,none⟩) 1 1 [.int .i64 k,.string (bs t),.int .i64 v,.int .i64 (q:Nat),.bool false] rfl (by have:=reads_new (w2.alloc (.cells #[.int .i64 k,.string (bs t),.int .i64 v,.int .i64 (q:Nat),.bool false] 72)) 72 5 1 [.int .i64 k,.string (bs t),.int .i64 v,.int .i64 (q:Nat),.bool false] rfl;simpa using this) (by simp [Value.oneCell']) (by unfold maxLen;omega) (by omega) (by simp;omega) ?_;intro v' w3 hown4 hg4 _;have HX3:Hid (LX w w3 v' (toks++[⟨k,t,v,q,false⟩])):=hH (LX.grown (HX2.out.bel bel_lit2) (by rw [show tokC ⟨k,t,v,q,false⟩=[.int .i64 k,.string (bs t),.int .i64 v,.int .i64 (q:Nat),.bool false] from rfl];exact hown4) hg4);clear hown4 hg4))
        have HF2:=hH (show lexF (s.data.toList.length+1) 0 s.data.toList=pref (toks++[⟨k,t,v,q,false⟩]) (lexF f' (q+n) (dr s (q+n))) by rw [HF.out,HGD.out])
        go_roundg (s.size-(q+n))
        case measure=>have:=HGK.out;have:=HP.out;simp;omega
        case rel=>exact⟨q+n,f',_,rfl,by omega,by omega,by simp;omega,by go_num,HF2,HX3⟩
       ·have HGD:=hH hgd
        clear hgd
        go_wp2_with (first
         | (go_at_call 24;refine(rblank_at _ _ _ HQB).mono ?_;rintro e w' ⟨rfl,rfl⟩)
         | (go_at_call 25;refine(hon _).mono ?_;rintro e w2 ⟨rfl,hb⟩;have HX2:=hH (HX.out.bel hb);have hz2:=HX2.out.2.2.2;clear hb;unfold tokWW)
         | (at_builtin;refine wpList_append_any _ rfl (.tmp 62) (.tmp 64) 50 rfl (w.heap.size+1) 72 i0 _ 5 48 Tryz.underlying50 hi hz0 hz1 hz2' rfl (by decide) _ _ _ rfl (HX2.out.bel bel_lit2).2.1 (w2.heap.size+1+1) (some ⟨w2.heap.size+1,0,none⟩) 1 1 [.int .i64 k,.string (bs t),.int .i64 v,.int .i64 (q:Nat),.bool true] rfl (by have:=reads_new (w2.alloc (.cells #[.int .i64 k,.string (bs t),.int .i64 v,.int .i64 (q:Nat),.bool true] 72)) 72 5 1 [.int .i64 k,.string (bs t),.int .i64 v,.int .i64 (q:Nat),.bool true] rfl;simpa using this) (by simp [Value.oneCell']) (by unfold maxLen;omega) (by omega) (by simp;omega) ?_;intro v' w3 hown4 hg4 _;have HX3:Hid (LX w w3 v' (toks++[⟨k,t,v,q,true⟩])):=hH (LX.grown (HX2.out.bel bel_lit2) (by rw [show tokC ⟨k,t,v,q,true⟩=[.int .i64 k,.string (bs t),.int .i64 v,.int .i64 (q:Nat),.bool true] from rfl];exact hown4) hg4);clear hown4 hg4))
        have HF2:=hH (show lexF (s.data.toList.length+1) 0 s.data.toList=pref (toks++[⟨k,t,v,q,true⟩]) (lexF f' (q+n) (dr s (q+n))) by rw [HF.out,HGD.out])
        go_roundg (s.size-(q+n))
        case measure=>have:=HGK.out;have:=HP.out;simp;omega
        case rel=>exact⟨q+n,f',_,rfl,by omega,by omega,by simp;omega,by go_num,HF2,HX3⟩
  ·have HF:=hH (HF.out.trans (lex_stop (f:=f) (toks:=toks) (show s.size≤a by omega)))
   obtain⟨A,cap,hv,hcap,_⟩:=own_flat tokC 5 tokC_len wr _ _ _ _ toks HX.out.2.1 rfl
   subst hv
   obtain⟨x1,⟨x2,x3⟩,x4,x5⟩:=HX.out.1.two
   rcases Nat.eq_zero_or_pos toks.length with h0|h0
   ·have HE:=hH (lexL_nil HL.out (by rw [HF.out,List.eq_nil_of_length_eq_zero h0]))
    have h1:((toks.length:Int)==0)=true:=by simp [h0]
    clear h0
    go_wp2
    rw [←HQ.out]
    exact bodyPost_ret (v:=.tuple #[.slice none 0 0,.agg #[.int .i64 3,.int .i64 0]]) (by simp [results,Tryz.results12,go_sem,x2,x3]) rfl (LexP.no HE.out (HX.out.stored _ _))
   ·have HE:=hH (lexL_ok HL.out HF.out (by intro e;rw [e] at h0;simp at h0))
    have h1:((toks.length:Int)==0)=false:=by rw [beq_eq_false_iff_ne];omega
    go_wp2
    rw [←HQ.out]
    exact bodyPost_ret (v:=.tuple #[.slice A toks.length cap,.agg #[.int .i64 0,.int .i64 0]]) (by simp [results,Tryz.results12,go_sem,x2,x3]) rfl (LexP.yes HE.out (HX.out.store _ _) (HX.out.stored _ _))
end

end Go.Proofs.YtjbdcjcfijjiiaaGreatDoor

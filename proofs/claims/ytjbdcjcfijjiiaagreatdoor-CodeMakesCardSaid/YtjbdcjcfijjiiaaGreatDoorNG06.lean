/- NG06: Ya, Qc joined. -/
import Derived.Test.YtjbdcjcfijjiiaaGreatDoorNG03
import Derived.Test.YtjbdcjcfijjiiaaGreatDoorNG04
import Derived.Test.YtjbdcjcfijjiiaaGreatDoorNG05
namespace Go.Proofs.YtjbdcjcfijjiiaaGreatDoor
open Go.RowKit
/- ref17: the reader; over, at, kind, is, fail, form, next. -/
section
open Go.RowKit
set_option maxRecDepth 100000
set_option maxHeartbeats 1000000
abbrev rv (A:Option Addr)(n c:Nat)(k:Nat)(E:Int)(t:PSt)(dp:Int):Value:=.agg #[.slice A n c,.int .i64 (k:Int),.int .i64 E,.int .i64 t.fe,.int .i64 t.fa,.int .i64 dp]
structure RIn (all:List TokD)(k:Nat)(t:PSt):Prop where
 eq:t.toks=all.drop k
 le:k≤all.length
 bd:all.length≤4096
theorem RIn.ov {all:List TokD}{k:Nat}{t:PSt}(h:RIn all k t):ovS t=(decide (t.fe≠0) || decide (all.length≤k)):=by
 unfold ovS
 rw [h.eq]
 congr 1
 ·by_cases hf:t.fe=0 <;> simp [hf]
 ·rw [Bool.eq_iff_iff];simp
theorem RIn.head {all:List TokD}{k:Nat}{t:PSt}(h:RIn all k t)(hk:k<all.length):∃x,all[k]? = some x∧t.toks=x::all.drop (k+1):=by
 refine⟨all[k],List.getElem?_eq_getElem hk,?_⟩
 rw [h.eq,List.drop_eq_getElem_cons hk]
theorem RIn.nil {all:List TokD}{k:Nat}{t:PSt}(h:RIn all k t)(hk:all.length≤k):t.toks=[]:=by rw [h.eq];exact List.drop_of_length_le hk
theorem RIn.ov_no {all:List TokD}{k:Nat}{t:PSt}(h:RIn all k t)(ho:ovS t=false):k<all.length∧t.fe=0:=by
 rw [h.ov] at ho
 simp at ho
 omega
theorem TkR.at_ {w:World}{A:Option Addr}{all:List TokD}{k:Nat}{x:TokD}(h:TkR w A all)(hx:all[k]? = some x):∃b off,A=some ⟨b,off,none⟩∧b<w.heap.size∧w.cell? ⟨b,off+k*5,none⟩=some (.int .i64 x.kind)∧w.cell? ⟨b,off+k*5+1,none⟩=some (.string (bs x.s))∧w.cell? ⟨b,off+k*5+2,none⟩=some (.int .i64 x.n)∧w.cell? ⟨b,off+k*5+3,none⟩=some (.int .i64 (x.at_:Nat))∧w.cell? ⟨b,off+k*5+4,none⟩=some (.bool x.gap):=by
 obtain⟨b,off,e,hlt,hc⟩:=h.resolve_left (by intro e;rw [e] at hx;simp at hx)
 exact⟨b,off,e,hlt,hc k x hx⟩
theorem RIn.hd {all:List TokD}{k:Nat}{t:PSt}{x:TokD}(h:RIn all k t)(hx:all[k]? = some x)(hf:t.fe=0):hdT t=x:=by
 have hk:k<all.length:=(List.getElem?_eq_some_iff.1 hx).1
 obtain⟨y,hy,ht⟩:=h.head hk
 rw [hx] at hy
 cases hy
 unfold hdT
 rw [if_pos hf,ht]
theorem rbs_tl (l:List UInt8):(bs l).toList=l:=by simp [bs]
section
variable  (A:Option Addr)(all:List TokD)(c k:Nat)(E:Int)(t:PSt)(dp:Int)(w:World)
theorem rover_any (h:RIn all k t):Calls Tryz.prog 16 #[rv A all.length c k E t dp] w fun e w'=>e=.returned (.bool (ovS t))∧Bel w.heap.size w w':=by
 have HE:=hH h.ov
 obtain⟨fe,hfe⟩:∃fe,t.fe=fe:=⟨_,rfl⟩
 have hk:=h.bd
 have hl:=h.le
 unfold rv
 rw [hfe] at HE ⊢
 clear h
 by_cases hf:fe=0
 ·have hf':(fe != 0)=false:=by rw [hf];rfl
  have HF:=hH hf
  clear hf
  go_enter Tryz.func16, Tryz.ntmps16
  go_wp2
  go_ret
  exact⟨ret_bool (by rw [HE.out,Bool.eq_iff_iff];simp [HF.out]),Bel.of (by (repeat' (first | (with_reducible exact Below.refl _ _) | (with_reducible refine Below.trans ?_ (below_drewN _ _ _)) | (with_reducible refine Below.alloc ?_ ?_ _) | (with_reducible refine Below.setCell ?_ ?_ _) | (with_reducible refine Below.drew ?_) | go_size)))⟩
 ·have hf':(fe != 0)=true:=bne_iff_ne.2 hf
  have HF:=hH hf
  clear hf
  go_enter Tryz.func16, Tryz.ntmps16
  go_wp2
  go_ret
  exact⟨ret_bool (by rw [HE.out,Bool.eq_iff_iff];simp [HF.out]),Bel.of (by (repeat' (first | (with_reducible exact Below.refl _ _) | (with_reducible refine Below.trans ?_ (below_drewN _ _ _)) | (with_reducible refine Below.alloc ?_ ?_ _) | (with_reducible refine Below.setCell ?_ ?_ _) | (with_reducible refine Below.drew ?_) | go_size)))⟩
theorem rover_at (b:Bool)(h:RIn all k t)(hb:Hid (ovS t=b)):Calls Tryz.prog 16 #[rv A all.length c k E t dp] w fun e w'=>e=.returned (.bool b)∧Bel w.heap.size w w':=by
 rw [←hb.out];exact rover_any A all c k E t dp w h
theorem rat_any (h:RIn all k t)(hT:TkR w A all):Calls Tryz.prog 28 #[rv A all.length c k E t dp] w fun e w'=>e=.returned (.int .i64 (atS E t))∧Bel w.heap.size w w':=by
 have hk:=h.bd
 unfold rv
 rcases Nat.lt_or_ge k all.length with hlt|hge
 ·obtain⟨x,hx,ht⟩:=h.head hlt
  obtain⟨b,off,rfl,hb,d0,d1,d2,d3,d4⟩:=hT.at_ hx
  have HE:=hH (show atS E t=(x.at_:Nat) by unfold atS;rw [ht])
  have hlt2:(k:Int)<(all.length:Int):=by omega
  clear h hT ht hx
  go_enter Tryz.func28, Tryz.ntmps28
  go_wp2
  go_ret
  exact⟨ret_int (by rw [HE.out]),Bel.of (by (repeat' (first | (with_reducible exact Below.refl _ _) | (with_reducible refine Below.trans ?_ (below_drewN _ _ _)) | (with_reducible refine Below.alloc ?_ ?_ _) | (with_reducible refine Below.setCell ?_ ?_ _) | (with_reducible refine Below.drew ?_) | go_size)))⟩
 ·have HE:=hH (show atS E t=E by unfold atS;rw [h.nil hge])
  have hge2:(all.length:Int)≤(k:Int):=by omega
  clear h hT
  go_enter Tryz.func28, Tryz.ntmps28
  go_wp2
  go_ret
  exact⟨ret_int (by rw [HE.out]),Bel.of (by (repeat' (first | (with_reducible exact Below.refl _ _) | (with_reducible refine Below.trans ?_ (below_drewN _ _ _)) | (with_reducible refine Below.alloc ?_ ?_ _) | (with_reducible refine Below.setCell ?_ ?_ _) | (with_reducible refine Below.drew ?_) | go_size)))⟩
theorem rkind_any (h:RIn all k t)(hT:TkR w A all):Calls Tryz.prog 26 #[rv A all.length c k E t dp] w fun e w'=>e=.returned (.int .i64 (kindS t))∧Bel w.heap.size w w':=by
 have hk:=h.bd
 cases ho:ovS t with
 | true =>
  have HO:=hH (fun w=>rover_at A all c k E t dp w true h (hH ho))
  have HE:=hH (show kindS t=0 by
   rw [h.ov] at ho
   unfold kindS hdT
   by_cases hf:t.fe=0
   ·have hge:all.length≤k:=by simpa [hf] using ho
    rw [if_pos hf,h.nil hge];rfl
   ·rw [if_neg hf];rfl)
  clear ho h hT
  go_enter Tryz.func26, Tryz.ntmps26
  go_wp2_with (go_at_call 16;refine(HO.out _).mono ?_;rintro e w1 ⟨rfl,hb⟩;have HB:=hH hb;clear hb)
  go_ret
  exact⟨ret_int (by rw [HE.out]),by first|exact((Bel.refl _ _).alloc (Nat.le_refl _) _).next HB.out⟩
 | false =>
  have HO:=hH (fun w=>rover_at A all c k E t dp w false h (hH ho))
  obtain⟨hlt,hf⟩:=h.ov_no ho
  obtain⟨x,hx,-⟩:=h.head hlt
  obtain⟨b,off,rfl,hb,d0,d1,d2,d3,d4⟩:=hT.at_ hx
  have HE:=hH (show kindS t=x.kind by unfold kindS;rw [h.hd hx hf])
  have hlt2:(k:Int)<(all.length:Int):=by omega
  have HW:=hH ((Bel.refl w.heap.size w).alloc (Nat.le_refl _) (.cells #[.slice (some ⟨b,off,none⟩) all.length c,.int .i64 (k:Int),.int .i64 E,.int .i64 t.fe,.int .i64 t.fa,.int .i64 dp] 54))
  clear ho h hT hx hf
  go_enter Tryz.func26, Tryz.ntmps26
  go_wp2_with (go_at_call 16;refine(HO.out _).mono ?_;rintro e w1 ⟨rfl,hb2⟩;have HB:=hH (HW.out.next hb2);have e0:=(HB.out.cell (p:=⟨b,off+k*5,none⟩) hb).trans d0;have HK:=hH ((Blk.new w 54 #[.slice (some ⟨b,off,none⟩) all.length c,.int .i64 (k:Int),.int .i64 E,.int .i64 t.fe,.int .i64 t.fa,.int .i64 dp]).bel hb2 (by simp));have q0:=HK.out.cell 0;have q1:=HK.out.cell 1;simp only [List.getElem?_toArray,List.getElem?_cons_zero,List.getElem?_cons_succ] at q0 q1;have q9:=HK.out.lt;clear hb2)
  go_ret
  exact⟨ret_int (by rw [HE.out]),HB.out⟩
theorem rkind_at (q:Int)(h:RIn all k t)(hT:TkR w A all)(hb:Hid (kindS t=q)):Calls Tryz.prog 26 #[rv A all.length c k E t dp] w fun e w'=>e=.returned (.int .i64 q)∧Bel w.heap.size w w':=by
 rw [←hb.out];exact rkind_any A all c k E t dp w h hT
theorem ris_any (s:ByteArray)(h:RIn all k t)(hT:TkR w A all):Calls Tryz.prog 13 #[rv A all.length c k E t dp,.string s] w fun e w'=>e=.returned (.bool (isS s.data.toList t))∧Bel w.heap.size w w':=by
 obtain⟨q,hq⟩:∃q,kindS t=q:=⟨_,rfl⟩
 have hbd:=h.bd
 have HW:=hH ((Bel.refl w.heap.size w).alloc (Nat.le_refl _) (.cells #[.slice A all.length c,.int .i64 (k:Int),.int .i64 E,.int .i64 t.fe,.int .i64 t.fa,.int .i64 dp] 54))
 have HK:=hH (rkind_at A all c k E t dp _ q h (hT.bel HW.out) (hH hq))
 by_cases h1:q=1
 ·have hq1:(q==1)=true:=by rw [h1];rfl
  have hov:ovS t=false:=by
   cases h9:ovS t with
   | false=>rfl
   | true =>
    rw [h.ov] at h9
    unfold kindS hdT at hq
    by_cases hf:t.fe=0
    ·have hge:all.length≤k:=by simpa [hf] using h9
     rw [if_pos hf,h.nil hge] at hq
     simp [tok0] at hq;omega
    ·rw [if_neg hf] at hq
     simp [tok0] at hq;omega
  obtain⟨hlt,hf⟩:=h.ov_no hov
  obtain⟨x,hx,-⟩:=h.head hlt
  obtain⟨b,off,rfl,hb,d0,d1,d2,d3,d4⟩:=hT.at_ hx
  have HE:=hH (show isS s.data.toList t=((bs x.s).toList==s.toList) by
   unfold isS
   rw [hq,h.hd hx hf]
   have:((bs x.s).toList==s.toList)=(x.s==s.data.toList):=by
    rw [rbs_tl,ByteArray.toList_eq]
   rw [this];simp [h1])
  have hlt2:(k:Int)<(all.length:Int):=by omega
  clear h hT hov hf hx hq h1
  go_enter Tryz.func13, Tryz.ntmps13
  go_wp2_with (go_at_call 26;refine HK.out.mono ?_;rintro e w1 ⟨rfl,hb2⟩;have HB:=hH (HW.out.next hb2);have e1:=(HB.out.cell (p:=⟨b,off+k*5+1,none⟩) hb).trans d1;have HC:=hH ((Blk.new w 54 #[.slice (some ⟨b,off,none⟩) all.length c,.int .i64 (k:Int),.int .i64 E,.int .i64 t.fe,.int .i64 t.fa,.int .i64 dp]).bel hb2 (by simp));have q0:=HC.out.cell 0;have q1:=HC.out.cell 1;simp only [List.getElem?_toArray,List.getElem?_cons_zero,List.getElem?_cons_succ] at q0 q1;have q9:=HC.out.lt;clear hb2)
  go_ret
  exact⟨ret_bool (by rw [HE.out]),HB.out⟩
 ·have hq1:(q==1)=false:=by rw [beq_eq_false_iff_ne];exact h1
  have HE:=hH (show isS s.data.toList t=false by unfold isS;rw [hq];simp [h1])
  clear h hT hq h1
  go_enter Tryz.func13, Tryz.ntmps13
  go_wp2_with (go_at_call 26;refine HK.out.mono ?_;rintro e w1 ⟨rfl,hb2⟩;have HB:=hH (HW.out.next hb2);clear hb2)
  go_ret
  exact⟨ret_bool (by rw [HE.out]),HB.out⟩
theorem ris_at (s:ByteArray)(b:Bool)(h:RIn all k t)(hT:TkR w A all)(hb:Hid (isS s.data.toList t=b)):Calls Tryz.prog 13 #[rv A all.length c k E t dp,.string s] w fun e w'=>e=.returned (.bool b)∧Bel w.heap.size w w':=by
 rw [←hb.out];exact ris_any A all c k E t dp w s h hT
theorem rfail_any (a e:Int):Calls Tryz.prog 27 #[rv A all.length c k E t dp,.int .i64 a,.int .i64 e] w fun e' w'=>e'=.returned (rv A all.length c k E (failS a e t) dp)∧Bel w.heap.size w w':=by
 obtain⟨toks,fe,fa⟩:=t
 by_cases hf:fe=0
 ·have hf':(fe==0)=true:=by rw [hf];rfl
  have HE:=hH (show failS a e ⟨toks,fe,fa⟩=⟨toks,e,a⟩ by unfold failS;rw [if_pos hf])
  clear hf
  go_enter Tryz.func27, Tryz.ntmps27
  go_wp2
  rw [HE.out]
  exact bodyPost_ret (v:=rv A all.length c k E ⟨toks,e,a⟩ dp) (by simp [results,Tryz.results27,go_sem]) rfl ⟨rfl,Bel.of (by (repeat' (first | (with_reducible exact Below.refl _ _) | (with_reducible refine Below.trans ?_ (below_drewN _ _ _)) | (with_reducible refine Below.alloc ?_ ?_ _) | (with_reducible refine Below.setCell ?_ ?_ _) | (with_reducible refine Below.drew ?_) | go_size)))⟩
 ·have hf':(fe==0)=false:=by rw [beq_eq_false_iff_ne];exact hf
  have HE:=hH (show failS a e ⟨toks,fe,fa⟩=⟨toks,fe,fa⟩ by unfold failS;rw [if_neg hf])
  clear hf
  go_enter Tryz.func27, Tryz.ntmps27
  go_wp2
  rw [HE.out]
  exact bodyPost_ret (v:=rv A all.length c k E ⟨toks,fe,fa⟩ dp) (by simp [results,Tryz.results27,go_sem]) rfl ⟨rfl,Bel.of (by (repeat' (first | (with_reducible exact Below.refl _ _) | (with_reducible refine Below.trans ?_ (below_drewN _ _ _)) | (with_reducible refine Below.alloc ?_ ?_ _) | (with_reducible refine Below.setCell ?_ ?_ _) | (with_reducible refine Below.drew ?_) | go_size)))⟩
end
end
/- qtree: the reader in memory; over, at, kind, is, fail, form. -/
section
open Go.RowKit
set_option maxRecDepth 100000
set_option maxHeartbeats 1000000
structure Ex (g:Nat)(w w':World):Prop where
 os:w'.os=w.os
 output:w'.output=w.output
 size:w.heap.size≤w'.heap.size
 block:∀k,k<w.heap.size→k≠g→w'.heap[k]? = w.heap[k]?
section
variable  {g:Nat}{a b c w w':World}
theorem Ex.refl (g:Nat)(w:World):Ex g w w:=⟨rfl,rfl,Nat.le_refl _,fun _ _ _=>rfl⟩
theorem Ex.trans (h:Ex g a b)(k:Ex g b c):Ex g a c :=
 ⟨k.os.trans h.os,k.output.trans h.output,Nat.le_trans h.size k.size,fun i hi hg=>(k.block i (Nat.lt_of_lt_of_le hi h.size) hg).trans (h.block i hi hg)⟩
theorem Ex.of_bel (g:Nat)(h:Bel w.heap.size w w'):Ex g w w':=⟨h.os,h.output,h.size,fun k hk _=>h.block k hk⟩
theorem Ex.alloc (h:Ex g a w)(o:Obj):Ex g a (w.alloc o):=h.trans (.of_bel g bel_lit)
theorem Ex.drewN (h:Ex g a w)(n:Nat):Ex g a (w.drewN n):=⟨h.os,h.output,h.size,h.block⟩
theorem Ex.set_ (h:Ex g a w){p:Addr}(hp:p.block=g∨a.heap.size≤p.block)(u:Value):Ex g a (w.setCell p u) :=
 ⟨h.os,h.output,by have:=h.size;simpa using this,fun k hk hg=>(Below.heap_setCell w p u k (by rcases hp with hp|hp <;> omega)).trans (h.block k hk hg)⟩
theorem Ex.bel (h:Ex g w w')(hg:g≤w.heap.size):Bel g w w':=⟨h.os,h.output,h.size,fun k hk=>h.block k (by omega) (by omega)⟩
theorem Blk.ex {t:TypeId}{cs:Array Value}{k:Nat}(h:Blk w k t cs)(hx:Ex g w w')(hk:k≠g):Blk w' k t cs:=(hx.block k h.lt hk).trans h
theorem Ex.kp {K K':Nat→Prop}(h:Ex g w w')(hK:∀b,K b→b<w.heap.size→b≠g∧K' b):Kp K K' w w':=⟨h.size,fun b hb hl=>⟨(hK b hb hl).2,h.block b hl (hK b hb hl).1⟩⟩
end
def TkB (g:Nat)(w:World)(A:Option Addr)(toks:List TokD):Prop :=
 toks=[]∨∃b off,A=some ⟨b,off,none⟩∧b<g∧∀(i:Nat) (x:TokD),toks[i]? = some x→w.cell? ⟨b,off+i*5,none⟩=some (.int .i64 x.kind)∧w.cell? ⟨b,off+i*5+1,none⟩=some (.string (bs x.s))∧w.cell? ⟨b,off+i*5+2,none⟩=some (.int .i64 x.n)∧w.cell? ⟨b,off+i*5+3,none⟩=some (.int .i64 (x.at_:Nat))∧w.cell? ⟨b,off+i*5+4,none⟩=some (.bool x.gap)
theorem TkB.keep {g:Nat}{w w':World}{A:Option Addr}{toks:List TokD}(h:TkB g w A toks)(hb:∀k,k<g→w'.heap[k]? = w.heap[k]?):TkB g w' A toks:=by
 refine h.imp id ?_
 rintro ⟨b,off,e,hlt,hc⟩
 refine⟨b,off,e,hlt,fun i x hx=>?_⟩
 obtain⟨h0,h1,h2,h3,h4⟩:=hc i x hx
 have k:∀o,w'.cell? ⟨b,o,none⟩=w.cell? ⟨b,o,none⟩:=fun o=>World.cell?_of_block (hb b hlt)
 exact⟨(k _).trans h0,(k _).trans h1,(k _).trans h2,(k _).trans h3,(k _).trans h4⟩
theorem TkB.tail {g:Nat}{w:World}{b off:Nat}{x:TokD}{r:List TokD}(h:TkB g w (some ⟨b,off,none⟩) (x::r)):TkB g w (some ⟨b,off+5,none⟩) r:=by
 obtain⟨b',off',e,hlt,hc⟩:=h.resolve_left (by simp)
 cases e
 refine .inr ⟨b,off+5,rfl,hlt,fun i y hy=>?_⟩
 have:=hc (i+1) y (by simpa using hy)
 rw [show off+(i+1)*5=off+5+i*5 by omega] at this
 exact this
def RdS (g:Nat)(E:Int)(w:World)(t:PSt)(d:Nat):Prop :=
 ∃A c,Blk w g 65 #[.slice A t.toks.length c,.int .i64 E,.int .i64 t.fe,.int .i64 t.fa,.int .i64 (d:Nat)]∧t.toks.length≤c∧(c≤9223372036854775807∧t.toks.length≤1000000)∧d≤100∧TkB g w A t.toks
section
variable  {g:Nat}{E:Int}{w w':World}{t:PSt}{d:Nat}
theorem RdS.lt (h:RdS g E w t d):g<w.heap.size:=by obtain⟨A,c,h,_⟩:=h;exact h.lt
theorem RdS.bel (h:RdS g E w t d)(hb:Bel w.heap.size w w'):RdS g E w' t d:=by
 have hl:=h.lt
 obtain⟨A,c,h1,h2,h3,h4,h5⟩:=h
 exact⟨A,c,h1.bel hb hl,h2,h3,h4,h5.keep fun k hk=>hb.block k (by omega)⟩
theorem RdS.drewN (h:RdS g E w t d)(n:Nat):RdS g E (w.drewN n) t d:=h.bel ((Bel.refl _ _).drewN n)
theorem RdS.alloc (h:RdS g E w t d)(o:Obj):RdS g E (w.alloc o) t d:=h.bel bel_lit
theorem RdS.far (h:RdS g E w t d){p:Addr}(hp:g<p.block)(u:Value):RdS g E (w.setCell p u) t d:=by
 obtain⟨A,c,h1,h2,h3,h4,h5⟩:=h
 exact⟨A,c,h1.far (by omega) u,h2,h3,h4,h5.keep fun k hk=>Below.heap_setCell w p u k (by omega)⟩
theorem RdS.deep (h:RdS g E w t d){v:Int}{d':Nat}(hv:v=(d':Nat))(hd:d'≤100):RdS g E (w.setCell ⟨g,4,none⟩ (.int .i64 v)) t d':=by
 obtain⟨A,c,h1,h2,h3,h4,h5⟩:=h
 refine⟨A,c,?_,h2,h3,hd,h5.keep fun k hk=>Below.heap_setCell w ⟨g,4,none⟩ _ k (by show k≠g;omega)⟩
 have:=h1.set_ 4 (.int .i64 v)
 rw [hv] at this ⊢
 exact this
theorem RdS.failed (h:RdS g E w t d)(e a:Int)(h0:t.fe=0):RdS g E ((w.setCell ⟨g,2,none⟩ (.int .i64 e)).setCell ⟨g,3,none⟩ (.int .i64 a)) (failS a e t) d:=by
 obtain⟨A,c,h1,h2,h3,h4,h5⟩:=h
 have hk:∀k,k<g→((w.setCell ⟨g,2,none⟩ (.int .i64 e)).setCell ⟨g,3,none⟩ (.int .i64 a)).heap[k]? = w.heap[k]?:=fun k hk =>
  (Below.heap_setCell _ ⟨g,3,none⟩ _ k (by show k≠g;omega)).trans (Below.heap_setCell w ⟨g,2,none⟩ _ k (by show k≠g;omega))
 unfold failS
 rw [if_pos h0]
 exact⟨A,c,(h1.set_ 2 (.int .i64 e)).set_ 3 (.int .i64 a),h2,h3,h4,h5.keep hk⟩
end
theorem Ex.self1 {g:Nat}{a w:World}(h:Ex g a w)(i:Nat)(u:Value):Ex g a (w.setCell ⟨g,i,none⟩ u):=h.set_ (.inl rfl) u
theorem RdS.cells {g:Nat}{E:Int}{w:World}{t:PSt}{d:Nat}(h:RdS g E w t d):∃A c n,n=t.toks.length∧n≤c∧c≤9223372036854775807∧d≤100∧g<w.heap.size∧
  (w.cell? ⟨g,0,none⟩=some (.slice A n c)∧w.cell? ⟨g,1,none⟩=some (.int .i64 E)∧w.cell? ⟨g,2,none⟩=some (.int .i64 t.fe)∧w.cell? ⟨g,3,none⟩=some (.int .i64 t.fa)∧w.cell? ⟨g,4,none⟩=some (.int .i64 (d:Nat)))∧
  (w.frozen? ⟨g,0,none⟩=false∧w.frozen? ⟨g,2,none⟩=false∧w.frozen? ⟨g,3,none⟩=false∧w.frozen? ⟨g,4,none⟩=false)∧TkB g w A t.toks:=by
 obtain⟨A,c,h1,h2,h3,h4,h5⟩:=h
 exact⟨A,c,_,rfl,h2,h3.1,h4,h1.lt,⟨h1.cell 0,h1.cell 1,h1.cell 2,h1.cell 3,h1.cell 4⟩,⟨h1.frozen 0,h1.frozen 2,h1.frozen 3,h1.frozen 4⟩,h5⟩
theorem TkB.head {g:Nat}{w:World}{A:Option Addr}{x:TokD}{r:List TokD}(h:TkB g w A (x::r)):∃b off,A=some ⟨b,off,none⟩∧b<g∧w.cell? ⟨b,off,none⟩=some (.int .i64 x.kind)∧w.cell? ⟨b,off+1,none⟩=some (.string (bs x.s))∧w.cell? ⟨b,off+2,none⟩=some (.int .i64 x.n)∧w.cell? ⟨b,off+3,none⟩=some (.int .i64 (x.at_:Nat))∧w.cell? ⟨b,off+4,none⟩=some (.bool x.gap):=by
 obtain⟨b,off,e,hlt,hc⟩:=h.resolve_left (by simp)
 have:=hc 0 x rfl
 simp only [Nat.zero_mul,Nat.add_zero] at this
 exact⟨b,off,e,hlt,this⟩
theorem eq_bs (s:ByteArray)(l:List UInt8):((bs l).toList==s.toList)=(l==s.data.toList):=by
 cases h:(l==s.data.toList) with
 | true=>exact str_t (bs_of (beq_iff_eq.1 h).symm).symm
 | false=>exact str_f (fun e=>by rw [beq_eq_false_iff_ne] at h;apply h;rw [←e,bs_list])
theorem over_any (g:Nat)(E:Int)(t:PSt)(d:Nat)(w:World)(h:RdS g E w t d) :
  Calls Tryz.prog 22 #[.pointer (some ⟨g,0,none⟩)] w fun e w'=>e=.returned (.bool (ovS t))∧w=w':=by
 obtain⟨A,c,n,hn,hnc,hc,hd,hg,⟨c0,c1,c2,c3,c4⟩,_,_⟩:=h.cells
 obtain⟨toks,fe,fa⟩:=t
 simp only at hn c2
 by_cases hf:fe=0
 ·have HE:=hH (show ovS ⟨toks,fe,fa⟩=(n==0) by unfold ovS;simp only;rw [hf,hn];cases toks <;> rfl)
  have hf':(fe != 0)=false:=by rw [hf];rfl
  have HN:=hH hn
  clear hn hf
  go_enter Tryz.func22, Tryz.ntmps22
  go_wp2
  go_ret
  exact⟨ret_bool (by rw [HE.out,Bool.eq_iff_iff];simp;try omega),rfl⟩
 ·have HE:=hH (show ovS ⟨toks,fe,fa⟩=true by unfold ovS;simp only;rw [bne_iff_ne.2 hf];rfl)
  have hf':(fe != 0)=true:=bne_iff_ne.2 hf
  clear hn hf
  go_enter Tryz.func22, Tryz.ntmps22
  go_wp2
  go_ret
  exact⟨ret_bool (by rw [HE.out]),rfl⟩
theorem over_at (b:Bool){g:Nat}{E:Int}{t:PSt}{d:Nat}(w:World)(h:RdS g E w t d)(hb:Hid (ovS t=b)) :
  Calls Tryz.prog 22 #[.pointer (some ⟨g,0,none⟩)] w fun e w'=>e=.returned (.bool b)∧w=w':=by
 rw [←hb.out];exact over_any g E t d w h
theorem at_any (g:Nat)(E:Int)(t:PSt)(d:Nat)(w:World)(h:RdS g E w t d) :
  Calls Tryz.prog 38 #[.pointer (some ⟨g,0,none⟩)] w fun e w'=>e=.returned (.int .i64 (atS E t))∧w=w':=by
 obtain⟨A,c,n,hn,hnc,hc,hd,hg,⟨c0,c1,c2,c3,c4⟩,_,hT⟩:=h.cells
 obtain⟨toks,fe,fa⟩:=t
 simp only at hn c2 hT
 cases toks with
 | nil =>
  have HE:=hH (show atS E ⟨[],fe,fa⟩=E from rfl)
  obtain rfl:n=0:=hn
  clear hT
  go_enter Tryz.func38, Tryz.ntmps38
  go_wp2
  go_ret
  exact⟨ret_int (by rw [HE.out]),rfl⟩
 | cons x r =>
  have HE:=hH (show atS E ⟨x::r,fe,fa⟩=(x.at_:Nat) from rfl)
  obtain⟨b,off,rfl,hb,d0,d1,d2,d3,d4⟩:=hT.head
  have hn0:0<n:=by rw [hn];simp
  have hn1:((n:Int)==0)=false:=by rw [beq_eq_false_iff_ne];omega
  clear hn hT
  go_enter Tryz.func38, Tryz.ntmps38
  go_wp2
  go_ret
  exact⟨ret_int (by rw [HE.out]),rfl⟩
theorem kind_any (g:Nat)(E:Int)(t:PSt)(d:Nat)(w:World)(h:RdS g E w t d) :
  Calls Tryz.prog 36 #[.pointer (some ⟨g,0,none⟩)] w fun e w'=>e=.returned (.int .i64 (kindS t))∧w=w':=by
 obtain⟨A,c,n,hn,hnc,hc,hd,hg,⟨c0,c1,c2,c3,c4⟩,_,hT⟩:=h.cells
 have hov:=fun b (hb:ovS t=b)=>over_at b w h (hH hb)
 cases hb:ovS t with
 | true =>
  have HO:=hH (hov true hb)
  have HE:=hH (show kindS t=0 by
   unfold kindS hdT
   unfold ovS at hb
   split
   ·rename_i h0
    rw [h0] at hb
    cases ht:t.toks with
    | nil=>rfl
    | cons x r=>rw [ht] at hb;simp at hb
   ·rfl)
  clear hb hov hn hT
  go_enter Tryz.func36, Tryz.ntmps36
  go_wp2_with (go_at_call 22;refine HO.out.mono ?_;rintro e w' ⟨rfl,rfl⟩)
  go_ret
  exact⟨ret_int (by rw [HE.out]),rfl⟩
 | false =>
  have HO:=hH (hov false hb)
  obtain⟨toks,fe,fa⟩:=t
  unfold ovS at hb
  simp only [Bool.or_eq_false_iff,bne_eq_false_iff_eq] at hb
  obtain⟨hf,ht⟩:=hb
  simp only at hn hT c2
  cases toks with
  | nil=>simp at ht
  | cons x r =>
   have HE:=hH (show kindS ⟨x::r,fe,fa⟩=x.kind by unfold kindS hdT;simp only;rw [if_pos hf])
   obtain⟨b,off,rfl,hb,d0,d1,d2,d3,d4⟩:=hT.head
   have hn0:0<n:=by rw [hn];simp
   clear hn hT hov hf ht
   go_enter Tryz.func36, Tryz.ntmps36
   go_wp2_with (go_at_call 22;refine HO.out.mono ?_;rintro e w' ⟨rfl,rfl⟩)
   go_ret
   exact⟨ret_int (by rw [HE.out]),rfl⟩
theorem kind_at (k:Int){g:Nat}{E:Int}{t:PSt}{d:Nat}(w:World)(h:RdS g E w t d)(hb:Hid (kindS t=k)) :
  Calls Tryz.prog 36 #[.pointer (some ⟨g,0,none⟩)] w fun e w'=>e=.returned (.int .i64 k)∧w=w':=by
 rw [←hb.out];exact kind_any g E t d w h
theorem is_any (g:Nat)(E:Int)(t:PSt)(d:Nat)(s:ByteArray)(w:World)(h:RdS g E w t d) :
  Calls Tryz.prog 19 #[.pointer (some ⟨g,0,none⟩),.string s] w fun e w'=>e=.returned (.bool (isS s.data.toList t))∧w=w':=by
 obtain⟨A,c,n,hn,hnc,hc,hd,hg,⟨c0,c1,c2,c3,c4⟩,_,hT⟩:=h.cells
 obtain⟨k,hk⟩:∃k,kindS t=k:=⟨_,rfl⟩
 have HK:=hH (kind_at k w h (hH hk))
 by_cases h1:k=1
 ·have hk1:(k==1)=true:=by rw [h1];rfl
  obtain⟨toks,fe,fa⟩:=t
  simp only at hn hT c2
  have hf:fe=0:=Classical.byContradiction fun hf=>by
   unfold kindS at hk;rw [hdT_bad hf] at hk;simp [tok0] at hk;omega
  cases toks with
  | nil=>unfold kindS hdT at hk;rw [if_pos hf] at hk;simp [tok0] at hk;omega
  | cons x r =>
   have hh:hdT ⟨x::r,fe,fa⟩=x:=by unfold hdT;simp only;rw [if_pos hf]
   have HE:=hH (show isS s.data.toList ⟨x::r,fe,fa⟩=((bs x.s).toList==s.toList) by
    unfold isS
    rw [hk,hh,eq_bs]
    simp [h1])
   obtain⟨b,off,rfl,hb,d0,d1,d2,d3,d4⟩:=hT.head
   have hn0:0<n:=by rw [hn];simp
   clear hn hT hf hk h1 hh
   go_enter Tryz.func19, Tryz.ntmps19
   go_wp2_with (go_at_call 36;refine HK.out.mono ?_;rintro e w' ⟨rfl,rfl⟩)
   go_ret
   exact⟨ret_bool (by rw [HE.out]),rfl⟩
 ·have hk1:(k==1)=false:=by rw [beq_eq_false_iff_ne];exact h1
  have HE:=hH (show isS s.data.toList t=false by unfold isS;rw [hk];simp [h1])
  clear hn hT hk h1
  go_enter Tryz.func19, Tryz.ntmps19
  go_wp2_with (go_at_call 36;refine HK.out.mono ?_;rintro e w' ⟨rfl,rfl⟩)
  go_ret
  exact⟨ret_bool (by rw [HE.out]),rfl⟩
theorem is_at (s:ByteArray)(b:Bool){g:Nat}{E:Int}{t:PSt}{d:Nat}(w:World)(h:RdS g E w t d)(hb:Hid (isS s.data.toList t=b)) :
  Calls Tryz.prog 19 #[.pointer (some ⟨g,0,none⟩),.string s] w fun e w'=>e=.returned (.bool b)∧w=w':=by
 rw [←hb.out];exact is_any g E t d s w h
theorem fail_any (g:Nat)(E:Int)(t:PSt)(d:Nat)(a e:Int)(w:World)(h:RdS g E w t d) :
  Calls Tryz.prog 37 #[.pointer (some ⟨g,0,none⟩),.int .i64 a,.int .i64 e] w fun e' w'=>e'=.returned (.tuple #[])∧RdS g E w' (failS a e t) d∧Ex g w w':=by
 obtain⟨A,c,n,hn,hnc,hc,hd,hg,⟨c0,c1,c2,c3,c4⟩,⟨f0,f2,f3,f4⟩,hT⟩:=h.cells
 obtain⟨fe,hfe⟩:∃fe,t.fe=fe:=⟨_,rfl⟩
 rw [hfe] at c2
 by_cases hf:fe=0
 ·have hf':(fe==0)=true:=by rw [hf];rfl
  have HR:=hH (h.failed e a (hfe.trans hf))
  clear hn hT hf hfe
  go_enter Tryz.func37, Tryz.ntmps37
  go_wp2
  go_end0
  exact⟨rfl,HR.out,((Ex.refl g w).self1 2 _).self1 3 _⟩
 ·have hf':(fe==0)=false:=by rw [beq_eq_false_iff_ne];exact hf
  have HR:=hH (show RdS g E w (failS a e t) d by rw [failS_bad (by rw [hfe];exact hf)];exact h)
  clear hn hT hf hfe
  go_enter Tryz.func37, Tryz.ntmps37
  go_wp2
  go_end0
  exact⟨rfl,HR.out,Ex.refl g w⟩
theorem form_any (g:Nat)(E:Int)(t:PSt)(d:Nat)(w:World)(h:RdS g E w t d) :
  Calls Tryz.prog 20 #[.pointer (some ⟨g,0,none⟩)] w fun e w'=>e=.returned (.tuple #[])∧RdS g E w' (formS E t) d∧Ex g w w':=by
 have HA:=hH (at_any g E t d w h)
 have HF:=hH (fail_any g E t d (atS E t) 3 w h)
 obtain⟨a,ha⟩:∃a,atS E t=a:=⟨_,rfl⟩
 unfold formS
 rw [ha] at HA HF ⊢
 clear ha h
 go_enter Tryz.func20, Tryz.ntmps20
 go_wp2_with (first|(go_at_call 38;refine HA.out.mono ?_;rintro e w' ⟨rfl,rfl⟩)|(go_at_call 37;refine HF.out.mono ?_;rintro e w' ⟨rfl,hr,hx⟩))
 go_end0
 exact⟨rfl,hr,hx⟩
end

end Go.Proofs.YtjbdcjcfijjiiaaGreatDoor

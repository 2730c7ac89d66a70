/- qtree: Parse (over Lex's contract). -/
import Derived.Test.YtjbdcjcfijjiiaaGreatDoorNG44
namespace Go.Proofs.YtjbdcjcfijjiiaaGreatDoor
open Go.RowKit
set_option maxRecDepth 100000
set_option maxHeartbeats 4000000
def LexQ (l:List UInt8)(w:World)(e:Ending)(w':World):Prop:=∃A c,e=.returned (.tuple #[.slice A (stOf l).toks.length c,.agg #[.int .i64 (stOf l).fe,.int .i64 (stOf l).fa]])∧
 ((stOf l).toks.length≤c∧c≤9223372036854775807∧(stOf l).toks.length≤1000000)∧TkR w' A (stOf l).toks∧Bel w.heap.size w w'
theorem RdS.start {w1:World}{A:Option Addr}{c:Nat}{t:PSt}{E:Int}(h:t.toks.length≤c∧c≤9223372036854775807∧t.toks.length≤1000000)(hT:TkR w1 A t.toks)(o:Obj) :
  RdS (w1.heap.size+1) E ((w1.alloc o).alloc (.cells #[.slice A t.toks.length c,.int .i64 E,.int .i64 t.fe,.int .i64 t.fa,.int .i64 0] 65)) t 0:=by
 refine⟨A,c,Blk.new1 w1 o _ _,h.1,h.2,by omega,?_⟩
 refine hT.imp id ?_
 rintro ⟨b,off,e,hlt,hc⟩
 refine⟨b,off,e,by omega,fun i x hx=>?_⟩
 obtain⟨h0,h1,h2,h3,h4⟩:=hc i x hx
 have hB:Bel w1.heap.size w1 ((w1.alloc o).alloc (.cells #[.slice A t.toks.length c,.int .i64 E,.int .i64 t.fe,.int .i64 t.fa,.int .i64 0] 65)):=((Bel.refl _ _).alloc (Nat.le_refl _) _).alloc (by simp) _
 have k:∀o',((w1.alloc o).alloc (.cells #[.slice A t.toks.length c,.int .i64 E,.int .i64 t.fe,.int .i64 t.fa,.int .i64 0] 65)).cell? ⟨b,o',none⟩=w1.cell? ⟨b,o',none⟩:=fun o'=>World.cell?_of_block (hB.block b hlt)
 exact⟨(k _).trans h0,(k _).trans h1,(k _).trans h2,(k _).trans h3,(k _).trans h4⟩
structure PW (w:World)(g:Nat)(E:Int)(wx:World)(t:PSt):Prop where
 rd:RdS g E wx t 0
 bel:Bel w.heap.size w wx
 u:Blk wx w.heap.size 37 #[.bool false,.slice none 0 0]
 v:Blk wx (w.heap.size+1) 31 #[.int .i64 0,.int .i64 0]
 lt:w.heap.size+1<g
theorem PW.start {w w1:World}{A:Option Addr}{c:Nat}{t:PSt}{E:Int}(h:t.toks.length≤c∧c≤9223372036854775807∧t.toks.length≤1000000)(hT:TkR w1 A t.toks)
  (hb0:Bel w.heap.size w ((w.alloc (.cells #[.bool false,.slice none 0 0] 37)).alloc (.cells #[.int .i64 0,.int .i64 0] 31)))
  (hu:Blk ((w.alloc (.cells #[.bool false,.slice none 0 0] 37)).alloc (.cells #[.int .i64 0,.int .i64 0] 31)) w.heap.size 37 #[.bool false,.slice none 0 0])
  (hv:Blk ((w.alloc (.cells #[.bool false,.slice none 0 0] 37)).alloc (.cells #[.int .i64 0,.int .i64 0] 31)) (w.heap.size+1) 31 #[.int .i64 0,.int .i64 0])
  (hb:Bel ((w.alloc (.cells #[.bool false,.slice none 0 0] 37)).alloc (.cells #[.int .i64 0,.int .i64 0] 31)).heap.size ((w.alloc (.cells #[.bool false,.slice none 0 0] 37)).alloc (.cells #[.int .i64 0,.int .i64 0] 31)) w1) :
  PW w (w1.heap.size+1) E ((w1.alloc (.cells #[.int .i64 t.fe,.int .i64 t.fa] 31)).alloc (.cells #[.slice A t.toks.length c,.int .i64 E,.int .i64 t.fe,.int .i64 t.fa,.int .i64 0] 65)) t:=by
 have hs:=hb.size
 simp at hs
 exact⟨RdS.start h hT _,((hb0.next hb).alloc (by omega) _).alloc (by simp;omega) _,((hu.belx hb).alloc _).alloc _,((hv.belx hb).alloc _).alloc _,by omega⟩
theorem PW.ex {w:World}{g:Nat}{E:Int}{wx w2:World}{t t2:PSt}(h:PW w g E wx t)(hr:RdS g E w2 t2 0)(hx:Ex g wx w2):PW w g E w2 t2 :=
 ⟨hr,h.bel.trans ((hx.bel (Nat.le_of_lt h.rd.lt)).mono (by have:=h.lt;omega)),h.u.ex hx (by have:=h.lt;omega),h.v.ex hx (by have:=h.lt;omega),h.lt⟩
theorem PW.alloc {w:World}{g:Nat}{E:Int}{wx:World}{t:PSt}(h:PW w g E wx t)(o:Obj):PW w g E (wx.alloc o) t :=
 ⟨h.rd.alloc o,h.bel.alloc h.bel.size o,h.u.alloc o,h.v.alloc o,h.lt⟩
def ParseP (l:List UInt8)(w:World)(e:Ending)(w':World):Prop :=
 (match parseT true l with
  | .error (x,a)=>e=.returned (.tuple #[.agg #[.bool false,.slice none 0 0],.agg #[.int .i64 x,.int .i64 a]])
  | .ok p=>∃m A c,e=.returned (.tuple #[.agg #[.bool p.abs,.slice A p.segs.length c],.agg #[.int .i64 0,.int .i64 0]])∧SegsG (Fr w) (ExR (Fr w) m w') w' (.slice A p.segs.length c) p.segs)∧Bel w.heap.size w w'
theorem ParseP.no {l:List UInt8}{w w':World}{x a:Int}(h:parseT true l=.error (x,a))(hb:Bel w.heap.size w w'):ParseP l w (.returned (.tuple #[.agg #[.bool false,.slice none 0 0],.agg #[.int .i64 x,.int .i64 a]])) w':=by
 unfold ParseP;rw [h];exact⟨rfl,hb⟩
theorem ParseP.yes {l:List UInt8}{w w':World}{p:PathT}{m:Nat}{A:Option Addr}{c:Nat}(h:parseT true l=.ok p)(hs:SegsG (Fr w) (ExR (Fr w) m w') w' (.slice A p.segs.length c) p.segs)(hb:Bel w.heap.size w w'):ParseP l w (.returned (.tuple #[.agg #[.bool p.abs,.slice A p.segs.length c],.agg #[.int .i64 0,.int .i64 0]])) w':=by
 unfold ParseP;rw [h];exact⟨⟨m,A,c,rfl,hs⟩,hb⟩
theorem parse_of (s:ByteArray)(w:World)(hlex:∀w,Calls Tryz.prog 18 #[.string s] w (LexQ s.data.toList w)) :
  Calls Tryz.prog 10 #[.string s] w (ParseP s.data.toList w):=by
 obtain⟨t,ht⟩:∃t,stOf s.data.toList=t:=⟨_,rfl⟩
 have HL:=hH (hlex ((w.alloc (.cells #[.bool false,.slice none 0 0] 37)).alloc (.cells #[.int .i64 0,.int .i64 0] 31)))
 have HPT:=hH (show parseT true s.data.toList=parse2 true (s.size:Int) t by unfold parseT;rw [ht,len_toList])
 unfold LexQ at HL
 rw [ht] at HL
 obtain⟨ps,t2,hp⟩:∃ps t2,pathF (s.size:Int) (orS true (s.size:Int) 34) 0 (if isS [36] t then t else formS (s.size:Int) t)=(ps,t2):=⟨_,_,rfl⟩
 have HP1:=hH (show parse1 true (s.size:Int) t=(ps,t2) from hp)
 obtain⟨t1,ht1⟩:∃t1,(if isS [36] t then t else formS (s.size:Int) t)=t1:=⟨_,rfl⟩
 have HT1:=hH ht1
 rw [ht1] at hp
 have HPP:=hH hp
 have hb0:Bel w.heap.size w ((w.alloc (.cells #[.bool false,.slice none 0 0] 37)).alloc (.cells #[.int .i64 0,.int .i64 0] 31)):=((Bel.refl _ _).alloc (Nat.le_refl _) _).alloc (by simp) _
 have HB0:=hH hb0
 have HU0:=hH ((Blk.new w 37 #[.bool false,.slice none 0 0]).alloc (.cells #[.int .i64 0,.int .i64 0] 31))
 have HV0:=hH (Blk.new1 w (.cells #[.bool false,.slice none 0 0] 37) 31 #[.int .i64 0,.int .i64 0])
 clear ht hp ht1 hb0 hlex
 go_enter Tryz.func10, Tryz.ntmps10
 generalize hQ:bodyPost Tryz.prog Tryz.f10 (ParseP s.data.toList w)=Q
 have HQ:=hH hQ;clear hQ
 let qd:=bodyPost Tryz.prog Tryz.f10 (ParseP s.data.toList w)
 go_upto_region 3 with(go_at_call 18;refine HL.out.mono ?_;rintro e w1 ⟨A,c,rfl,hc,hT,hb⟩;have HR2:=hH (RdS.start (E:=(s.size:Int)) hc hT (.cells #[.int .i64 t.fe,.int .i64 t.fa] 31));have HPW:=hH (PW.start (E:=(s.size:Int)) hc hT HB0.out HU0.out HV0.out hb);clear hc hT hb)
 go_cut [26] (fun v wx=>v=.bool (t.fe==0 && !isS [36] t)∧Hid (PW w (w1.heap.size+1) (s.size:Int) wx t))
 case first =>
  obtain⟨b2,hb2⟩:∃b2,isS [36] t=b2:=⟨_,rfl⟩
  have HI:=hH (is_at ⟨#[36]⟩ b2 _ HPW.out.rd (hH hb2))
  have HB:=hH hb2
  clear hb2
  by_cases hf:t.fe=0
  ·have hf':(t.fe==0)=true:=by rw [hf];rfl
   clear hf
   go_wp2_with (go_at_call 19;refine HI.out.mono ?_;rintro e w' ⟨rfl,rfl⟩)
   go_meet
   case rel=>exact⟨by rw [hf',HB.out];rfl,HPW⟩
  ·have hf':(t.fe==0)=false:=by rw [beq_eq_false_iff_ne];exact hf
   clear hf
   go_wp2
   go_meet
   case rel=>exact⟨by rw [hf'];rfl,HPW⟩
 case rest =>
 obtain⟨rfl,HPX⟩:=hcut
 clear HPW HL HB0 HU0 HV0
 have HPW:=hH HPX.out
 clear HPX
 cases hb:(t.fe==0 && !isS [36] t) with
 | true =>
   have HA:=hH (show formS (s.size:Int) t=t1 by
    rw [←HT1.out,if_neg (by rw [Bool.and_eq_true] at hb;simpa using hb.2)])
   have HF:=hH (form_any (w1.heap.size+1) (s.size:Int) t 0 _ HPW.out.rd)
   rw [HA.out] at HF
   clear hb
   go_upto_region 5 with(go_at_call 20;refine HF.out.mono ?_;rintro e wz ⟨rfl,hr,hx⟩;have HPA:=hH (HPW.out.ex hr hx);clear hr hx)
   clear HPW
   have HPC:=hH (path_all (w1.heap.size+1) (s.size:Int) t1 _ HPA.out.rd)
   rw [HPP.out] at HPC
   unfold PathP at HPC
   simp only at HPC
   have HP1b:=hH HP1.out
   clear HP1
   go_wp2_with fail
   refine HPC.out.mono ?_
   rintro e w2 ⟨m,Ap,cp,rfl,hsg,hr,hx⟩
   have HSG:=hH hsg
   have HP2:=hH ((HPA.out.ex hr hx).alloc (.cells #[.bool ps.abs,.slice Ap ps.segs.length cp] 37))
   have HY2:=hH (Blk.new w2 37 #[.bool ps.abs,.slice Ap ps.segs.length cp])
   have hy1:w1.heap.size+1<wz.heap.size:=HPA.out.rd.lt
   have hy2:=hx.size
   have hyw:=HPA.out.bel.size
   clear hsg hr hx HPC HPA
   cases ho:ovS t2 with
   | false =>
    have HE:=hH (show parse2 true (s.size:Int) t=.error ((formS (s.size:Int) t2).fe,(formS (s.size:Int) t2).fa) by
     unfold parse2
     rw [HP1b.out]
     simp only
     rw [ite_ff ho,if_neg (formS_fe _ _)])
    have HO:=hH (over_at false _ HP2.out.rd (hH ho))
    have HF:=hH (form_any (w1.heap.size+1) (s.size:Int) t2 0 _ HP2.out.rd)
    have hfe3:((formS (s.size:Int) t2).fe != 0)=true:=bne_iff_ne.2 (formS_fe _ _)
    clear ho
    go_upto_region 9 with(first|(go_at_call 22;refine HO.out.mono ?_;rintro e w' ⟨rfl,rfl⟩)|(go_at_call 20;refine HF.out.mono ?_;rintro e w3 ⟨rfl,hr,hx⟩;have HP3:=hH (HP2.out.ex hr hx);clear hr hx;obtain⟨Ar,cr,nr,hnr,hncr,hcr,hdr,hgr,⟨c0,c1,c2,c3,c4⟩,⟨p0,p2,p3,p4⟩,hTr⟩:=HP3.out.rd.cells;clear hnr hTr;obtain⟨zu,⟨u0,u1⟩,⟨uf0,uf1⟩⟩:=HP3.out.u.c2;obtain⟨zv,⟨v0,v1⟩,⟨vf0,vf1⟩⟩:=HP3.out.v.c2;have hltg:=HP3.out.lt))
    go_region
    all_goals
     go_wp2
     rw [←HQ.out]
     exact bodyPost_ret (v:=.tuple #[.agg #[.bool false,.slice none 0 0],.agg #[.int .i64 (formS (s.size:Int) t2).fe,.int .i64 (formS (s.size:Int) t2).fa]]) (by simp [results,Tryz.results10,go_sem,u0,u1,v0,v1]) rfl (ParseP.no (HPT.out.trans HE.out) ((((HP3.out.bel.setCell (p:=⟨w.heap.size,0,none⟩) (Nat.le_refl _) _).setCell (p:=⟨w.heap.size,1,none⟩) (Nat.le_refl _) _).setCell (p:=⟨w.heap.size+1,0,none⟩) (Nat.le_succ _) _).setCell (p:=⟨w.heap.size+1,1,none⟩) (Nat.le_succ _) _).drew)
   | true =>
    have HO:=hH (over_at true _ HP2.out.rd (hH ho))
    by_cases hf2:t2.fe=0
    ·have HE:=hH (show parse2 true (s.size:Int) t=.ok ps by
      unfold parse2
      rw [HP1b.out]
      simp only
      rw [if_pos ho,if_pos hf2])
     have hfe3:(t2.fe != 0)=false:=by rw [hf2];rfl
     clear ho hf2
     obtain⟨Ar,cr,nr,hnr,hncr,hcr,hdr,hgr,⟨c0,c1,c2,c3,c4⟩,⟨p0,p2,p3,p4⟩,hTr⟩:=HP2.out.rd.cells
     clear hnr hTr
     obtain⟨zu,⟨u0,u1⟩,⟨uf0,uf1⟩⟩:=HP2.out.u.c2
     obtain⟨zv,⟨v0,v1⟩,⟨vf0,vf1⟩⟩:=HP2.out.v.c2
     have hltg:=HP2.out.lt
     obtain⟨zy,⟨y0,y1⟩,⟨yf0,yf1⟩⟩:=HY2.out.c2
     go_wp2_with (go_at_call 22;refine HO.out.mono ?_;rintro e w' ⟨rfl,rfl⟩)
     rw [←HQ.out]
     exact bodyPost_ret (v:=.tuple #[.agg #[.bool ps.abs,.slice Ap ps.segs.length cp],.agg #[.int .i64 0,.int .i64 0]]) (by simp [results,Tryz.results10,go_sem,u0,u1,v0,v1]) rfl (ParseP.yes (HPT.out.trans HE.out) (HSG.out.kp ((((((Kp.id_ fun b (hb:wz.heap.size≤b) _=>(show w.heap.size≤b by omega):Kp (Fr wz) (Fr w) w2 w2).alloc _).set_ (p:=⟨w.heap.size,0,none⟩) (fun b (hb:wz.heap.size≤b) _=>by show b≠w.heap.size;omega) _).set_ (p:=⟨w.heap.size,1,none⟩) (fun b (hb:wz.heap.size≤b) _=>by show b≠w.heap.size;omega) _).set_ (p:=⟨w.heap.size+1,0,none⟩) (fun b (hb:wz.heap.size≤b) _=>by show b≠w.heap.size+1;omega) _).set_ (p:=⟨w.heap.size+1,1,none⟩) (fun b (hb:wz.heap.size≤b) _=>by show b≠w.heap.size+1;omega) _) (Nat.le_refl _)) ((((HP2.out.bel.setCell (p:=⟨w.heap.size,0,none⟩) (Nat.le_refl _) _).setCell (p:=⟨w.heap.size,1,none⟩) (Nat.le_refl _) _).setCell (p:=⟨w.heap.size+1,0,none⟩) (Nat.le_succ _) _).setCell (p:=⟨w.heap.size+1,1,none⟩) (Nat.le_succ _) _))
    ·have HE:=hH (show parse2 true (s.size:Int) t=.error (t2.fe,t2.fa) by
      unfold parse2
      rw [HP1b.out]
      simp only
      rw [if_pos ho,if_neg hf2])
     have hfe3:(t2.fe != 0)=true:=bne_iff_ne.2 hf2
     clear ho hf2
     obtain⟨Ar,cr,nr,hnr,hncr,hcr,hdr,hgr,⟨c0,c1,c2,c3,c4⟩,⟨p0,p2,p3,p4⟩,hTr⟩:=HP2.out.rd.cells
     clear hnr hTr
     obtain⟨zu,⟨u0,u1⟩,⟨uf0,uf1⟩⟩:=HP2.out.u.c2
     obtain⟨zv,⟨v0,v1⟩,⟨vf0,vf1⟩⟩:=HP2.out.v.c2
     have hltg:=HP2.out.lt
     go_upto_region 9 with(go_at_call 22;refine HO.out.mono ?_;rintro e w' ⟨rfl,rfl⟩)
     go_region
     all_goals
      go_wp2
      rw [←HQ.out]
      exact bodyPost_ret (v:=.tuple #[.agg #[.bool false,.slice none 0 0],.agg #[.int .i64 t2.fe,.int .i64 t2.fa]]) (by simp [results,Tryz.results10,go_sem,u0,u1,v0,v1]) rfl (ParseP.no (HPT.out.trans HE.out) ((((HP2.out.bel.setCell (p:=⟨w.heap.size,0,none⟩) (Nat.le_refl _) _).setCell (p:=⟨w.heap.size,1,none⟩) (Nat.le_refl _) _).setCell (p:=⟨w.heap.size+1,0,none⟩) (Nat.le_succ _) _).setCell (p:=⟨w.heap.size+1,1,none⟩) (Nat.le_succ _) _).drew)
 | false =>
   have HA:=hH (show t=t1 by
    rw [←HT1.out]
    by_cases hi:isS [36] t=true
    ·rw [if_pos hi]
    ·rw [if_neg hi]
     by_cases hf:t.fe=0
     ·simp [hf,hi] at hb
     ·rw [formS_bad hf])
   have HPA:=hH (show PW w (w1.heap.size+1) (s.size:Int) wc t1 by rw [←HA.out];exact HPW.out)
   clear hb
   go_upto_region 5 with fail
   clear HPW
   have HPC:=hH (path_all (w1.heap.size+1) (s.size:Int) t1 _ HPA.out.rd)
   rw [HPP.out] at HPC
   unfold PathP at HPC
   simp only at HPC
   have HP1b:=hH HP1.out
   clear HP1
   go_wp2_with fail
   refine HPC.out.mono ?_
   rintro e w2 ⟨m,Ap,cp,rfl,hsg,hr,hx⟩
   have HSG:=hH hsg
   have HP2:=hH ((HPA.out.ex hr hx).alloc (.cells #[.bool ps.abs,.slice Ap ps.segs.length cp] 37))
   have HY2:=hH (Blk.new w2 37 #[.bool ps.abs,.slice Ap ps.segs.length cp])
   have hy1:w1.heap.size+1<wc.heap.size:=HPA.out.rd.lt
   have hy2:=hx.size
   have hyw:=HPA.out.bel.size
   clear hsg hr hx HPC HPA
   cases ho:ovS t2 with
   | false =>
    have HE:=hH (show parse2 true (s.size:Int) t=.error ((formS (s.size:Int) t2).fe,(formS (s.size:Int) t2).fa) by
     unfold parse2
     rw [HP1b.out]
     simp only
     rw [ite_ff ho,if_neg (formS_fe _ _)])
    have HO:=hH (over_at false _ HP2.out.rd (hH ho))
    have HF:=hH (form_any (w1.heap.size+1) (s.size:Int) t2 0 _ HP2.out.rd)
    have hfe3:((formS (s.size:Int) t2).fe != 0)=true:=bne_iff_ne.2 (formS_fe _ _)
    clear ho
    go_upto_region 9 with(first|(go_at_call 22;refine HO.out.mono ?_;rintro e w' ⟨rfl,rfl⟩)|(go_at_call 20;refine HF.out.mono ?_;rintro e w3 ⟨rfl,hr,hx⟩;have HP3:=hH (HP2.out.ex hr hx);clear hr hx;obtain⟨Ar,cr,nr,hnr,hncr,hcr,hdr,hgr,⟨c0,c1,c2,c3,c4⟩,⟨p0,p2,p3,p4⟩,hTr⟩:=HP3.out.rd.cells;clear hnr hTr;obtain⟨zu,⟨u0,u1⟩,⟨uf0,uf1⟩⟩:=HP3.out.u.c2;obtain⟨zv,⟨v0,v1⟩,⟨vf0,vf1⟩⟩:=HP3.out.v.c2;have hltg:=HP3.out.lt))
    go_region
    all_goals
     go_wp2
     rw [←HQ.out]
     exact bodyPost_ret (v:=.tuple #[.agg #[.bool false,.slice none 0 0],.agg #[.int .i64 (formS (s.size:Int) t2).fe,.int .i64 (formS (s.size:Int) t2).fa]]) (by simp [results,Tryz.results10,go_sem,u0,u1,v0,v1]) rfl (ParseP.no (HPT.out.trans HE.out) ((((HP3.out.bel.setCell (p:=⟨w.heap.size,0,none⟩) (Nat.le_refl _) _).setCell (p:=⟨w.heap.size,1,none⟩) (Nat.le_refl _) _).setCell (p:=⟨w.heap.size+1,0,none⟩) (Nat.le_succ _) _).setCell (p:=⟨w.heap.size+1,1,none⟩) (Nat.le_succ _) _).drew)
   | true =>
    have HO:=hH (over_at true _ HP2.out.rd (hH ho))
    by_cases hf2:t2.fe=0
    ·have HE:=hH (show parse2 true (s.size:Int) t=.ok ps by
      unfold parse2
      rw [HP1b.out]
      simp only
      rw [if_pos ho,if_pos hf2])
     have hfe3:(t2.fe != 0)=false:=by rw [hf2];rfl
     clear ho hf2
     obtain⟨Ar,cr,nr,hnr,hncr,hcr,hdr,hgr,⟨c0,c1,c2,c3,c4⟩,⟨p0,p2,p3,p4⟩,hTr⟩:=HP2.out.rd.cells
     clear hnr hTr
     obtain⟨zu,⟨u0,u1⟩,⟨uf0,uf1⟩⟩:=HP2.out.u.c2
     obtain⟨zv,⟨v0,v1⟩,⟨vf0,vf1⟩⟩:=HP2.out.v.c2
     have hltg:=HP2.out.lt
     obtain⟨zy,⟨y0,y1⟩,⟨yf0,yf1⟩⟩:=HY2.out.c2
     go_wp2_with (go_at_call 22;refine HO.out.mono ?_;rintro e w' ⟨rfl,rfl⟩)
     rw [←HQ.out]
     exact bodyPost_ret (v:=.tuple #[.agg #[.bool ps.abs,.slice Ap ps.segs.length cp],.agg #[.int .i64 0,.int .i64 0]]) (by simp [results,Tryz.results10,go_sem,u0,u1,v0,v1]) rfl (ParseP.yes (HPT.out.trans HE.out) (HSG.out.kp ((((((Kp.id_ fun b (hb:wc.heap.size≤b) _=>(show w.heap.size≤b by omega):Kp (Fr wc) (Fr w) w2 w2).alloc _).set_ (p:=⟨w.heap.size,0,none⟩) (fun b (hb:wc.heap.size≤b) _=>by show b≠w.heap.size;omega) _).set_ (p:=⟨w.heap.size,1,none⟩) (fun b (hb:wc.heap.size≤b) _=>by show b≠w.heap.size;omega) _).set_ (p:=⟨w.heap.size+1,0,none⟩) (fun b (hb:wc.heap.size≤b) _=>by show b≠w.heap.size+1;omega) _).set_ (p:=⟨w.heap.size+1,1,none⟩) (fun b (hb:wc.heap.size≤b) _=>by show b≠w.heap.size+1;omega) _) (Nat.le_refl _)) ((((HP2.out.bel.setCell (p:=⟨w.heap.size,0,none⟩) (Nat.le_refl _) _).setCell (p:=⟨w.heap.size,1,none⟩) (Nat.le_refl _) _).setCell (p:=⟨w.heap.size+1,0,none⟩) (Nat.le_succ _) _).setCell (p:=⟨w.heap.size+1,1,none⟩) (Nat.le_succ _) _))
    ·have HE:=hH (show parse2 true (s.size:Int) t=.error (t2.fe,t2.fa) by
      unfold parse2
      rw [HP1b.out]
      simp only
      rw [if_pos ho,if_neg hf2])
     have hfe3:(t2.fe != 0)=true:=bne_iff_ne.2 hf2
     clear ho hf2
     obtain⟨Ar,cr,nr,hnr,hncr,hcr,hdr,hgr,⟨c0,c1,c2,c3,c4⟩,⟨p0,p2,p3,p4⟩,hTr⟩:=HP2.out.rd.cells
     clear hnr hTr
     obtain⟨zu,⟨u0,u1⟩,⟨uf0,uf1⟩⟩:=HP2.out.u.c2
     obtain⟨zv,⟨v0,v1⟩,⟨vf0,vf1⟩⟩:=HP2.out.v.c2
     have hltg:=HP2.out.lt
     go_upto_region 9 with(go_at_call 22;refine HO.out.mono ?_;rintro e w' ⟨rfl,rfl⟩)
     go_region
     all_goals
      go_wp2
      rw [←HQ.out]
      exact bodyPost_ret (v:=.tuple #[.agg #[.bool false,.slice none 0 0],.agg #[.int .i64 t2.fe,.int .i64 t2.fa]]) (by simp [results,Tryz.results10,go_sem,u0,u1,v0,v1]) rfl (ParseP.no (HPT.out.trans HE.out) ((((HP2.out.bel.setCell (p:=⟨w.heap.size,0,none⟩) (Nat.le_refl _) _).setCell (p:=⟨w.heap.size,1,none⟩) (Nat.le_refl _) _).setCell (p:=⟨w.heap.size+1,0,none⟩) (Nat.le_succ _) _).setCell (p:=⟨w.heap.size+1,1,none⟩) (Nat.le_succ _) _).drew)
end Go.Proofs.YtjbdcjcfijjiiaaGreatDoor

/- NG22: Cm, Cn, Yf joined. -/
import Derived.Test.YtjbdcjcfijjiiaaGreatDoorNG17
import Derived.Test.YtjbdcjcfijjiiaaGreatDoorNG12
import Derived.Test.YtjbdcjcfijjiiaaGreatDoorNG04
import Derived.Test.YtjbdcjcfijjiiaaGreatDoorNG10
namespace Go.Proofs.YtjbdcjcfijjiiaaGreatDoor
open Go.RowKit
/- ref19: Make (printed by gen_cm.py). -/
section
open Go.RowKit
set_option maxRecDepth 100000
set_option maxHeartbeats 2000000
def Nn (w:World)(ex:List Nat)(A:Option Addr):Prop:=∀a,A=some a→w.heap.size≤a.block∧a.spot=none∧a.block ∉ ex
theorem Nn.none (w:World)(ex:List Nat):Nn w ex none:=fun a e=>by cases e
theorem Nn.o {w w1:World}{ex:List Nat}{A A':Option Addr}(h:Nn w ex A)(hf:FrO w1 A A')(hw:w.heap.size≤w1.heap.size)(hex:∀b∈ex,b<w1.heap.size):Nn w ex A':=fun a e=>by
 rcases hf a e with⟨h1,h2⟩|h1
 ·exact⟨Nat.le_trans hw h1,h2,fun h=>Nat.lt_irrefl _ (Nat.lt_of_lt_of_le (hex _ h) h1)⟩
 ·exact h a h1
structure Nn5 (w:World)(ex:List Nat)(A1 A2 A3 A4 A5:Option Addr):Prop where
 h1:Nn w ex A1
 h2:Nn w ex A2
 h3:Nn w ex A3
 h4:Nn w ex A4
 h5:Nn w ex A5
section
variable  {X:List Nat}{w0 w w':World}{L:List BlkE}{rs:List RowE}{J:World→Prop}{A1 A2 A3 A4 A5 B1 B2 B3 B4 B5:Option Addr}{c:CodeD}{W:List (PathT×Value)}
theorem Nn5.o {w1:World}{ex:List Nat}(h:Nn5 w0 ex A1 A2 A3 A4 A5)(hf:FrO w1 A1 B1∧FrO w1 A2 B2∧FrO w1 A3 B3∧FrO w1 A4 B4∧FrO w1 A5 B5)(hw:w0.heap.size≤w1.heap.size)(hex:∀b∈ex,b<w1.heap.size):Nn5 w0 ex B1 B2 B3 B4 B5 :=
 ⟨h.h1.o hf.1 hw hex,h.h2.o hf.2.1 hw hex,h.h3.o hf.2.2.1 hw hex,h.h4.o hf.2.2.2.1 hw hex,h.h5.o hf.2.2.2.2 hw hex⟩
theorem Own.addM (M:Own X w0 w L rs J)(hb:Bel w.heap.size w w')(h:MRd w' c W A1 A2 A3 A4 A5)(hn:Nn5 w0 (exO L rs) A1 A2 A3 A4 A5):Own X w0 w' L rs (fun y=>J y∧MRd y c W A1 A2 A3 A4 A5) :=
 (M.bel hb).add fun _ hy=>⟨h.p.kept hy fun a e _ hm=>(hn.h1 a e).2.2 hm,h.g.kept hy fun a e _ hm=>(hn.h2 a e).2.2 hm,h.s.kept hy fun a e _ hm=>(hn.h3 a e).2.2 hm,h.i.kept hy fun a e _ hm=>(hn.h4 a e).2.2 hm,h.w.kept hy fun a e _ hm=>(hn.h5 a e).2.2 hm⟩
end
theorem Own.swap {X:List Nat}{w0 w:World}{x z:BlkE}{L:List BlkE}{rs:List RowE}{J:World→Prop}(M:Own X w0 w (x::z::L) rs J):Own X w0 w (z::x::L) rs J:=by
 have hp:(exO (x::z::L) rs).Perm (exO (z::x::L) rs):=by
  unfold exO
  simp only [List.map_cons,List.cons_append]
  exact List.Perm.swap _ _ _
 have hm:∀a,a∈z::x::L→a∈x::z::L:=fun a h=>(List.Perm.swap x z L).mem_iff.1 h
 exact⟨M.os,M.output,M.size,M.out,fun a h=>M.low a (hm a h),fun a h=>M.blk a (hm a h),M.row,hp.nodup_iff.1 M.nodup,fun y hy=>M.always y ⟨hy.1,fun b h1 h2=>hy.2 b h1 fun h=>h2 (hp.mem_iff.2 h)⟩⟩
theorem rdd0 (y:World)(k:Nat)(A:Option Addr):Rdd y k A 0 []:=⟨by simp,fun h=>absurd h (by omega)⟩
def RMakeP (c:CodeD)(w:World)(e:Ending)(w':World):Prop :=
 ∃(A1 A2 A3 A4:Option Addr) (k1 k2 k3 k4:Nat),e=.returned (.agg #[.slice A1 c.ps.length k1,.slice A2 c.gs.length k2,.slice A3 c.ss.length k3,.slice A4 c.is.length k4])∧
  (∃W A5,MRd w' c W A1 A2 A3 A4 A5)∧(FrA w A1∧FrA w A2∧FrA w A3∧FrA w A4)∧(c.gs.length≤k2∧c.ss.length≤k3)∧Bel w.heap.size w w'
theorem Nn.fr {w:World}{ex:List Nat}{A:Option Addr}(h:Nn w ex A):FrA w A:=fun a e=>⟨(h a e).1,(h a e).2.1⟩
section
variable  {S:List UInt8→Prop}{n:Nat}
theorem wt_len (l:List PathT):l.length≤(l.map (wtP (wtN n))).sum:=len_le_sum _ _ fun x _=>by unfold wtP;omega
end
theorem make_step {S:List UInt8→Prop}{c:CodeD}{W Wn:List (PathT×Value)}{z:PathT×Value}{r:List PathT}{p:PathT}(h1:Wn.map (·.1)=flW 200 (selsOf z.1.segs))(hd:(W.map (·.1)).drop c.ps.length=z.1::r)(h:makeL 200 (5000-c.ps.length) c ((W.map (·.1)).drop c.ps.length)=codeT p∧c.ps.length≤W.length∧szC c+(((W.map (·.1)).drop c.ps.length).map (wtP (wtN 200))).sum≤5000)(hwf:WfP S (WfN S 200) z.1) :
  makeL 200 (5000-(layP 200 W.length c z.1).ps.length) (layP 200 W.length c z.1) (((W++Wn).map (·.1)).drop (layP 200 W.length c z.1).ps.length)=codeT p∧(layP 200 W.length c z.1).ps.length≤(W++Wn).length∧szC (layP 200 W.length c z.1)+((((W++Wn).map (·.1)).drop (layP 200 W.length c z.1).ps.length).map (wtP (wtN 200))).sum≤5000:=by
 obtain⟨h2,h3,h4⟩:=h
 have h5:(layP 200 W.length c z.1).ps.length=c.ps.length+1:=by simp [layP]
 have hl:W.length=c.ps.length+1+r.length:=by
  have:=congrArg List.length hd
  simp at this;omega
 have h6:((W++Wn).map (·.1)).drop (c.ps.length+1)=r++flW 200 (selsOf z.1.segs):=by
  rw [List.map_append,h1,List.drop_append_of_le_length (by rw [List.length_map];omega),←List.drop_drop,hd];rfl
 have h7:=lay_size c z.1 W.length hwf
 have h8:1≤wtP (wtN 200) z.1:=by unfold wtP;omega
 have h9:c.ps.length≤szC c:=by unfold szC;omega
 rw [hd,List.map_cons,List.sum_cons] at h4
 rw [hd,show 5000-c.ps.length=(5000-(c.ps.length+1))+1 by omega,makeL,←hl] at h2
 rw [h5,h6]
 refine⟨h2,by rw [List.length_append];omega,?_⟩
 rw [List.map_append,List.sum_append]
 omega
theorem rmake_any (S:List UInt8→Prop)(p:PathT)(v:Value)(w:World)(hz:TreeV w (p,v))(hwf:WfP S (WfN S 200) p)(hwt:wtP (wtN 200) p≤5000):Calls Tryz.prog 11 #[.agg #[.bool p.abs,v]] w (RMakeP (codeT p) w):=by
 have M:=hH (Own.start [] w (fun _=>True) fun _ _=>trivial)
 have h1v:=hz.one
 have HZ:=hH hz
 have HWP:=hH hwf
 have HWT:=hH hwt
 clear hz hwf hwt
 obtain⟨Ap,cp,mp,hv,_⟩:=HZ.out
 simp only at hv
 have HV:=hH hv
 clear hv h1v
 have h1v:(v:Value).oneCell'=true:=by rw [HV.out];rfl
 have HV1:=hH h1v
 go_enter Tryz.func11, Tryz.ntmps11
 generalize hQ:bodyPost Tryz.prog Tryz.f11 _=Q
 have HQ:=hH hQ;clear hQ
 let qd:=bodyPost Tryz.prog Tryz.f11 (fun _ _=>True)
 go_upto_region 2 with(first|(with_reducible first|(refine l_al (d:=2) F_Code M.out ?_;clear M;intro g2 w' hg2 M)|refine l_ld1 O_sPath M.out ?_|(refine l_al (d:=3) F_M M.out ?_;clear M;intro g3 w' hg3 M)|(refine l_st F_M M.out ?_;clear M;intro w' M))|((with_reducible refine l_bx (d:=1) M.out ?_);clear M;intro g1 w' hg1 M;replace M:=hH M.out.freeze)|((with_reducible refine g_ld 37 ?_);refine l_ldj F_Path rfl M.out (fun y h=>h.2) (by exact rfl) ?_)|((with_reducible refine g_bs 59 6 ?_);refine l_bs SL_sPath (cs:=#[.bool p.abs,v]) (by kernel_rfl) M.out ?_;clear M;intro g6 w' hg6 M))
 have HNE:=hH (show g6 ∉ [g3,g2] from by
  have h:=M.out.nodup
  unfold exO at h
  simp only [List.map_cons,List.map_nil,List.filterMap_nil,List.append_nil,List.nodup_cons,List.mem_cons,List.not_mem_nil,or_false,not_or] at h
  intro hm
  simp only [List.mem_cons,List.not_mem_nil,or_false] at hm
  rcases hm with hm|hm
  ·exact h.1.1 hm.symm
  ·exact h.2.1 hm)
 replace M:=hH M.out.swap.freeze
 have HN0:=hH (show Nn5 w [g3,g2] none none none none (some ⟨g6,0,none⟩) from⟨Nn.none _ _,Nn.none _ _,Nn.none _ _,Nn.none _ _,fun a e=>by
  cases e
  exact⟨hg6,rfl,HNE.out⟩⟩)
 go_wp2
 go_loopg [4] 5000 (fun gk iv wr=>∃(c:CodeD) (W:List (PathT×Value)) (A1 A2 A3 A4 A5:Option Addr) (k1 k2 k3 k4 k5:Nat),gk=5000-c.ps.length∧iv=.int .i64 (c.ps.length:Nat)∧Hid (makeL 200 (5000-c.ps.length) c ((W.map (·.1)).drop c.ps.length)=codeT p∧c.ps.length≤W.length∧szC c+(((W.map (·.1)).drop c.ps.length).map (wtP (wtN 200))).sum≤5000)∧Hid (∀z∈W,TreeV w z∧WfP S (WfN S 200) z.1)∧Hid (Nn5 w [g3,g2] A1 A2 A3 A4 A5)∧Hid (c.gs.length≤k2∧c.ss.length≤k3)∧Hid (Own [] w wr [(g3,68,#[.slice A1 c.ps.length k1,.slice A2 c.gs.length k2,.slice A3 c.ss.length k3,.slice A4 c.is.length k4,.slice A5 W.length k5]),(g2,28,#[.slice none 0 0,.slice none 0 0,.slice none 0 0,.slice none 0 0])] [] (fun y=>MRd y c W A1 A2 A3 A4 A5)))
 case atStart=>exact⟨code0,[(p,v)],none,none,none,none,some ⟨g6,0,none⟩,0,0,0,0,1,rfl,rfl,hH ⟨rfl,Nat.zero_le _,by simpa [code0,szC] using HWT.out⟩,hH (fun z hz=>by rw [List.mem_singleton.1 hz];exact⟨HZ.out,HWP.out⟩),HN0,hH ⟨Nat.le_refl _,Nat.le_refl _⟩,hH (M.out.imp fun y h=>⟨rdd0 _ _ _,rdd0 _ _ _,rdd0 _ _ _,rdd0 _ _ _,reads_blk h.2 rfl⟩)⟩
 case round =>
  clear M HN0
  obtain⟨c,W,A1,A2,A3,A4,A5,k1,k2,k3,k4,k5,hgk,rfl,HINV,HTW,HNN,HQ0,M⟩:=hrel
  have HGK:=hH hgk
  cases hdr:(W.map (·.1)).drop c.ps.length with
  | cons q r =>
   have hlt:c.ps.length<W.length:=by
    rcases Nat.lt_or_ge c.ps.length W.length with h|h
    ·exact h
    ·rw [List.drop_eq_nil_of_le (by rw [List.length_map];exact h)] at hdr;cases hdr
   obtain⟨z,hz⟩:∃z,W[c.ps.length]? = some z:=⟨_,List.getElem?_eq_getElem hlt⟩
   have hqz:q=z.1:=by
    have h1:=congrArg (fun l=>l[0]?) hdr
    simp only [List.getElem?_drop,Nat.add_zero,List.getElem?_map,hz,List.getElem?_cons_zero,Option.map_some] at h1
    exact(Option.some.inj h1).symm
   subst hqz
   have HDR:=hH hdr
   have HZI:=hH hz
   have HWF:=hH (HTW.out z (List.mem_of_getElem? hz)).2
   have hsz:=HINV.out.2.2
   rw [HDR.out,List.map_cons,List.sum_cons] at hsz
   have hw1:1≤wtP (wtN 200) z.1:=by unfold wtP;omega
   have hps:c.ps.length≤szC c:=by unfold szC;omega
   have hWl:W.length≤5000:=by
    have h1:=wt_len (n:=200) r
    have h2:=congrArg List.length HDR.out
    rw [List.length_drop,List.length_map,List.length_cons] at h2
    omega
   have hlay:(layP 200 W.length c z.1).ps.length=c.ps.length+1:=by simp [layP]
   have hlt5:(c.ps.length:Int)<5000:=by omega
   have hltI:(c.ps.length:Int)<(W.length:Int):=by omega
   obtain⟨ad,hA5,hbl,hcel⟩:=M.out.now.w.2 (by omega)
   obtain⟨b5,o5,sp5⟩:=ad
   obtain rfl:sp5=none:=(HNN.out.h5 _ hA5).2.1
   subst hA5
   have HRA:=hH (show ∀y:World,MRd y c W A1 A2 A3 A4 (some ⟨b5,o5,none⟩)→y.rangeAt b5 (o5+c.ps.length*2) (wC z) from fun y h j u hu=>by
    obtain⟨ad,e,_,hc⟩:=h.w.2 (by omega)
    cases e
    have hj:j<2:=(List.getElem?_eq_some_iff.1 hu).1
    have:=hc (c.ps.length*2+j) u (by rw [flat_get wC 2 (fun _=>rfl) W c.ps.length j hj,HZI.out];exact hu)
    rw [add_lit,←Nat.add_assoc] at this
    exact this)
   have HPC:=hH (fun (wz:World) (hb:Bel w.heap.size w wz) (hm:MRd wz c W A1 A2 A3 A4 (some ⟨b5,o5,none⟩))=>rpath_tree (S:=S) (n:=200) z (HTW.out z (List.mem_of_getElem? HZI.out)).1 HWF.out c W (fun y hy=>(HTW.out y hy).1) wz hb A1 A2 A3 A4 (some ⟨b5,o5,none⟩) k1 k2 k3 k4 k5 hm HQ0.out.1 (by omega) (by omega) (by omega))
   clear hbl hcel hz hdr
   go_upto_region 5 with(first|(with_reducible refine l_ld1 O_sPath M.out ?_)|((with_reducible refine g_ldg 59 ?_);refine l_ld1g O_sPath rfl rfl M.out ?_))
   replace M:=hH M.out.drew
   refine tbh (fun y=>MRd y c W A1 A2 A3 A4 (some ⟨b5,o5,none⟩)) M.out.now fun hS=>?_
   refine tkp 1 rfl hS ?_
   refine tkp 3 rfl hS ?_
   repeat' (first|((with_reducible refine gR ?_);first|exact .nil|(refine r_ld F_M (i:=0) rfl rfl M.out ?_ ?_;refine⟨M.out.now,tn ?_⟩)|(refine r_ld1 O_sPath (i:=2) rfl rfl M.out ?_ ?_;refine⟨M.out.now,tn ?_⟩)|(refine rdy_call (HPC.out _ M.out.bel0 M.out.now) (i:=6) (op:=.call _) rfl (by go_simp) ?_ ?_;rintro e_ w' ⟨c',Wn,B1,B2,B3,B4,B5,j1,j2,j3,j4,j5,hc',rfl,hm,hW1,hW2,hf,hq,hb⟩;have hn:=HNN.out.o hf M.out.bel0.size (fun b hb=>M.out.ex_lt hb);have Mn:=M.out.addM hb hm hn;have HC:=hH hc';have HWN:=hH (And.intro hW1 hW2);have HNB:=hH hn;have HQQ:=hH hq;replace M:=hH Mn;clear Mn hb hm hn hc' hW1 hW2 hf hq;refine⟨_,rfl,?_⟩;refine⟨M.out.now.1,tn ?_⟩)|(refine r_st F_M (i:=7) rfl rfl rfl M.out ?_ ?_;clear M;intro w' M;refine⟨M.out.now.1,tn ?_⟩))|((with_reducible refine gW ?_);first|refine tkpd 4 rfl M.out.now ?_|refine tkd 5 rfl M.out.now (y_ldf F_Path _ _ _ rfl [.bool z.1.abs,z.2] (fun y h=>HRA.out y h) rfl) ?_|refine trd [0,2] ?_|refine trd [2] ?_|refine trd [6] ?_|refine trd [7] ?_|refine trd [0] ?_|refine ted ?_))
   all_goals
    go_wp2
    go_roundg (5000-c'.ps.length)
    case measure=>rw [HC.out,hlay];omega
    case rel=>exact⟨c',W++Wn,B1,B2,B3,B4,B5,j1,j2,j3,j4,j5,rfl,by rw [HC.out,hlay];first|go_num|simp,hH (by rw [HC.out];exact make_step HWN.out.1 HDR.out HINV.out HWF.out),hH (fun y hy=>(List.mem_append.1 hy).elim (HTW.out y) fun hy=>⟨HWN.out.2 y hy,flW_mem (sels_wf HWF.out) (by rw [←HWN.out.1];exact List.mem_map.2 ⟨y,hy,rfl⟩)⟩),HNB,HQQ,hH (M.out.imp fun y h=>h.2)⟩
  | nil =>
   have hWc:W.length=c.ps.length:=by
    have:=congrArg List.length hdr
    rw [List.length_drop,List.length_map,List.length_nil] at this
    have:=HINV.out.2.1
    omega
   have HCO:=hH (show codeT p=c from by
    rw [←HINV.out.1,hdr]
    cases 5000-c.ps.length <;> rfl)
   have hnlt:¬(c.ps.length:Int)<(W.length:Int):=by omega
   clear hdr
   by_cases h5:(c.ps.length:Int)<5000
   all_goals
    go_wp2_with (first|(with_reducible first|refine l_ld1 O_sPath M.out ?_|(refine l_st F_Code M.out ?_;clear M;intro w' M))|((with_reducible refine g_ldg 59 ?_);refine l_ld1g O_sPath rfl rfl M.out ?_)|((with_reducible refine g_ld 28 ?_);refine l_ldm F_Code rfl M.out ?_))
    rw [←HQ.out]
    refine bodyPost_ret (results_1 Tryz.results11 _ _ g2 _ _ rfl (M.out.blk (g2,_,_) (by repeat constructor)) F_Code rfl) rfl ?_
    rw [HCO.out]
    exact⟨A1,A2,A3,A4,k1,k2,k3,k4,rfl,⟨W,A5,M.out.now⟩,⟨HNN.out.h1.fr,HNN.out.h2.fr,HNN.out.h3.fr,HNN.out.h4.fr⟩,HQ0.out,M.out.bel0⟩
end
/- Tokens of a text: numbers within bounds, as many as bytes at most; a query's shape (plain; no word of a dump). -/
section
theorem capI_bd2 {a:Int}(h:0≤a∧a≤9007199254740992){c:UInt8}(hc:48≤(c.toNat:Int)):0≤capI a c∧capI a c≤9007199254740992:=by
 unfold capI;omega
theorem numV_bd2 :∀(l:List UInt8) (a:Int),0≤a∧a≤9007199254740992→(∀c∈l,isDig c=true)→0≤l.foldl capI a∧l.foldl capI a≤9007199254740992
 | [],_,h,_=>h
 | c::r,a,h,hd=>numV_bd2 r _ (capI_bd2 h (by
   have:=hd c (by simp)
   unfold isDig at this
   simp at this
   first|omega|(have h2:=this.1;exact_mod_cast (UInt8.le_iff_toNat_le.1 h2)))) fun x hx=>hd x (by simp [hx])
theorem dig_take :∀(l:List UInt8),∀c∈l.take (digN l),isDig c=true
 | [],c,h=>by simp at h
 | x::r,c,h=>by
  rw [digN] at h
  split at h
  ·rw [List.take_succ_cons] at h
   rcases List.mem_cons.1 h with rfl|h
   ·assumption
   ·exact dig_take r c h
  ·simp at h
theorem numT_n {l:List UInt8}{v:Int}{n:Nat}(h:numT l=.ok (v,n)):okN v:=by
 unfold numT at h
 obtain⟨_,h2,h3,_⟩:=num_aux _ _ _ _ _ _ h
 subst h3
 cases hm:hd l 45
 ·rw [hm] at h2
  simp only [Bool.false_eq_true,if_false,List.drop_zero] at h2 ⊢
  have:=numV_bd2 (l.take (digN l)) 0 (by omega) (dig_take l)
  unfold okN numV at *
  omega
 ·rw [hm] at h2
  simp only [if_true] at h2 ⊢
  have:=numV_bd2 ((l.drop 1).take (digN (l.drop 1))) 0 (by omega) (dig_take _)
  unfold okN numV at *
  omega
theorem tokT_n {l:List UInt8}{k:Int}{t:List UInt8}{v:Int}{n:Nat}(h:tokT l=.ok (k,t,v,n)):okN v:=by
 have h0:okN 0:=by unfold okN;omega
 unfold tokT at h
 cases l with
 | nil=>cases h
 | cons c r =>
  simp only at h
  split at h
  ·cases ht:txtF (r.length+1) c r with
   | none=>rw [ht] at h;cases h
   | some tn =>
    rw [ht] at h
    simp only [Except.ok.injEq,Prod.mk.injEq] at h
    rw [←h.2.2.1];exact h0
  ·split at h
   ·cases hn:numT (c::r) with
    | error e=>rw [hn] at h;cases h
    | ok vn =>
     obtain⟨v',m⟩:=vn
     rw [hn] at h
     simp only [Except.ok.injEq,Prod.mk.injEq] at h
     rw [←h.2.2.1];exact numT_n hn
   ·split at h
    ·simp only [Except.ok.injEq,Prod.mk.injEq] at h
     rw [←h.2.2.1];exact h0
    ·cases hs:signsL.find? (fun x=>(c::r).take x.length==x) with
     | none=>rw [hs] at h;cases h
     | some x =>
      rw [hs] at h
      simp only [Except.ok.injEq,Prod.mk.injEq] at h
      rw [←h.2.2.1];exact h0
theorem lexF_tk :∀(f a:Nat) (u:List UInt8) (r:List TokD),lexF f a u=.ok r→(∀x∈r,okN x.n)∧r.length≤u.length
 | 0,a,u,r,h=>by
  rw [lexF] at h
  cases h
  exact⟨fun x hx=>by simp at hx,Nat.zero_le _⟩
 | f+1,a,u,r,h=>by
  rw [lexF] at h
  split at h
  ·cases h;exact⟨fun x hx=>by simp at hx,Nat.zero_le _⟩
  ·split at h
   ·cases h
   ·cases ht:tokT (u.drop (bkN u)) with
    | error e=>rw [ht] at h;cases h
    | ok q =>
     obtain⟨k,t,v,n⟩:=q
     rw [ht] at h
     simp only at h
     have h1:=tokT_ok _ _ _ _ _ ht
     unfold tokOK at h1
     cases hl:lexF f (a+bkN u+n) ((u.drop (bkN u)).drop n) with
     | error e=>rw [hl] at h;cases h
     | ok r2 =>
      rw [hl] at h
      simp only [Except.ok.injEq] at h
      obtain⟨h2,h3⟩:=lexF_tk f _ _ r2 hl
      subst h
      refine⟨fun x hx=>?_,?_⟩
      ·rcases List.mem_cons.1 hx with rfl|hx
       ·exact tokT_n ht
       ·exact h2 x hx
      ·have h4:=h1.1
       have h5:=h1.2.1
       rw [List.length_drop,List.length_drop] at h3
       rw [List.length_drop] at h5
       rw [List.length_cons];omega
theorem stOf_tk (l:List UInt8):(∀x∈(stOf l).toks,okN x.n)∧(stOf l).toks.length≤l.length:=by
 unfold stOf
 cases h:lexL l with
 | error e=>exact⟨fun x hx=>by simp at hx,Nat.zero_le _⟩
 | ok r =>
  simp only
  unfold lexL at h
  split at h
  ·cases h
  ·cases hf:lexF (l.length+1) 0 l with
   | error e=>rw [hf] at h;cases h
   | ok r2 =>
    rw [hf] at h
    cases r2 with
    | nil=>cases h
    | cons x r3 =>
     simp only [Except.ok.injEq] at h
     subst h
     exact lexF_tk _ _ _ _ hf
theorem parse_wf {m:Bool}{l:List UInt8}{p:PathT}(h:parseT m l=.ok p):WfP (fun _=>True) (WfN (fun _=>True) 200) p∧wtP (wtN 200) p≤4*l.length∧p.abs=true:=by
 obtain⟨h1,h2⟩:=stOf_tk l
 have:=parse2_g (S:=fun _=>True) (t:=stOf l) (fun x hx=>⟨h1 x hx,fun _=>trivial⟩) h
 exact⟨this.1,by omega,this.2.2⟩
theorem err_ne {m:Bool}{l:List UInt8}{x a:Int}(h:parseT m l=.error (x,a)):x≠0:=by
 unfold parseT parse2 at h
 generalize (if ovS (parse1 m (l.length:Nat) (stOf l)).2 then (parse1 m (l.length:Nat) (stOf l)).2 else formS (l.length:Nat) (parse1 m (l.length:Nat) (stOf l)).2)=X at h
 by_cases hc:X.fe=0
 ·rw [if_pos hc] at h;cases h
 ·rw [if_neg hc] at h
  simp only [Except.error.injEq,Prod.mk.injEq] at h
  rw [←h.1];exact hc
end
/- ref17: number in one contract; sel, where it is an index (printed by gen_rnum.py). -/
section
open Go.RowKit
set_option maxRecDepth 100000
set_option maxHeartbeats 2000000
section
variable  (A:Option Addr)(all:List TokD)(c k:Nat)(E:Int)(P:Nat→PSt→ExprT×PSt)(t:PSt)(d:Nat)(dp:Int)(w:World)
def RNumP (A:Option Addr)(all:List TokD)(c:Nat)(E:Int)(dp:Int)(w:World)(r:Int×Bool×PSt)(e:Ending)(w':World):Prop :=
 ∃k',e=.returned (.tuple #[rv A all.length c k' E r.2.2 dp,.int .i64 r.1,.bool r.2.1])∧RIn all k' r.2.2∧Bel w.heap.size w w'
theorem rnumber_any (h:RIn all k t)(hT:TkR w A all):Calls Tryz.prog 88 #[rv A all.length c k E t dp] w (RNumP A all c E dp w (numS E t)):=by
 by_cases hk:kindS t=3
 ·have e:numS E t=((hdT t).n,true,nextS E t):=by unfold numS;rw [if_pos hk]
  rw [e]
  exact rnumber_yes A all c k E t dp w h hT hk
 ·have e:numS E t=(0,false,t):=by unfold numS;rw [if_neg hk]
  rw [e]
  refine(rnumber_no A all c k E t dp w h hT hk).mono ?_
  rintro e w' ⟨rfl,hb⟩
  exact⟨k,rfl,h,hb⟩
theorem rsel_index_a (h:RIn all k t)(hT:TkR w A all)(hd:t.fe=0→dp=(d:Int))(k4:kindS t≠4)(h42:isS [42] t=false)(h63:isS [63] t=false)(k3:kindS t=3)(n1:Int)(ok:Bool)(t1:PSt)(h1:numS E t=(n1,ok,t1))(hs:isS [58] t1=false):Calls Tryz.prog 68 #[rv A all.length c k E t dp] w (RSelP A all c E d w (selF E P d t)):=by
 have HB0:=hH ((((Bel.refl w.heap.size w).alloc (Nat.le_refl _) (.cells #[.slice A all.length c,.int .i64 (k:Int),.int .i64 E,.int .i64 t.fe,.int .i64 t.fa,.int .i64 dp] 54)).alloc (by simp) (.cells #[.slice none 0 0,.int .i64 0,.int .i64 0,.int .i64 0,.int .i64 0,.int .i64 0] 54)).alloc (by simp;omega) (.cells #[.int .i64 0,.string ⟨#[]⟩,.int .i64 0,.int .i64 0,.int .i64 0,.int .i64 0,.bool false,.bool false,.pointer none] 85))
 have HV0:=hH (((Blk.new w 54 #[.slice A all.length c,.int .i64 (k:Int),.int .i64 E,.int .i64 t.fe,.int .i64 t.fa,.int .i64 dp]).alloc (.cells #[.slice none 0 0,.int .i64 0,.int .i64 0,.int .i64 0,.int .i64 0,.int .i64 0] 54)).alloc (.cells #[.int .i64 0,.string ⟨#[]⟩,.int .i64 0,.int .i64 0,.int .i64 0,.int .i64 0,.bool false,.bool false,.pointer none] 85))
 have HZ0:=hH ((Blk.new1 w (.cells #[.slice A all.length c,.int .i64 (k:Int),.int .i64 E,.int .i64 t.fe,.int .i64 t.fa,.int .i64 dp] 54) 54 #[.slice none 0 0,.int .i64 0,.int .i64 0,.int .i64 0,.int .i64 0,.int .i64 0]).alloc (.cells #[.int .i64 0,.string ⟨#[]⟩,.int .i64 0,.int .i64 0,.int .i64 0,.int .i64 0,.bool false,.bool false,.pointer none] 85))
 have HS0:=hH (Blk.new2 w (.cells #[.slice A all.length c,.int .i64 (k:Int),.int .i64 E,.int .i64 t.fe,.int .i64 t.fa,.int .i64 dp] 54) (.cells #[.slice none 0 0,.int .i64 0,.int .i64 0,.int .i64 0,.int .i64 0,.int .i64 0] 54) 85 #[.int .i64 0,.string ⟨#[]⟩,.int .i64 0,.int .i64 0,.int .i64 0,.int .i64 0,.bool false,.bool false,.pointer none])
 obtain⟨q,hq⟩:∃q,kindS t=q:=⟨_,rfl⟩
 have hq4:(q==4)=false:=by rw [beq_eq_false_iff_ne,←hq];exact k4
 have hq3:(q != 3)=false:=by rw [←hq,k3];rfl
 have HK:=hH (fun W (hb:Bel w.heap.size w W)=>rkind_at A all c k E t dp W q h (hT.bel hb) (hH hq))
 have HI:=hH (fun W (hb:Bel w.heap.size w W)=>ris_at A all c k E t dp W ⟨#[42]⟩ false h (hT.bel hb) (hH h42))
 have HJ:=hH (fun W (hb:Bel w.heap.size w W)=>ris_at A all c k E t dp W ⟨#[63]⟩ false h (hT.bel hb) (hH h63))
 have HN:=hH (fun W (hb:Bel w.heap.size w W)=>rnumber_any A all c k E t dp W h (hT.bel hb))
 have HD:=hH hd
 have HTT:=hH hT
 unfold RNumP at HN
 rw [h1] at HN
 have HE:=hH (show selF E P d t=(⟨2,[],n1,0,0,0,false,false,none⟩,t1) by unfold selF;rw [if_neg k4,ite_ff h42,ite_ff h63,decide_eq_true k3,Bool.true_or,if_pos rfl];unfold numbersS;rw [h1];simp only;rw [ite_ff hs])
 have HF1:=hH (show t1.fe=0→t.fe=0 from fun e=>Classical.byContradiction fun hf=>by rw [numS_bad hf] at h1;simp only [Prod.mk.injEq] at h1;rw [←h1.2.2] at e;exact hf e)
 have HSG:=hH hs
 clear h hT hq k4 h42 h63 k3 hd h1 hs
 go_enter Tryz.func68, Tryz.ntmps68
 generalize hQ:bodyPost Tryz.prog Tryz.f68 (RSelP A all c E d w (selF E P d t))=Q
 have HQ:=hH hQ;clear hQ
 go_wp2_with (first|(go_at_call 26;(with_reducible refine(HK.out _ HB3.out).mono ?_);rintro e w4 ⟨rfl,hb⟩;have HB4:=hH (HB3.out.next hb);have HV4:=hH (HV3.out.bel hb HV3.out.lt);have HZ4:=hH (HZ3.out.bel hb HZ3.out.lt);have HS4:=hH (HS3.out.bel hb HS3.out.lt);clear hb;clear qz q0 q1 q2 q3 q4 q5 qf0 qf1 qf2 qf3 qf4 qf5;clear zz z0 z1 z2 z3 z4 z5 zf0 zf1 zf2 zf3 zf4 zf5;clear sz s0 s1 s2 s3 s4 s5 s6 s7 s8 sf0 sf1 sf2 sf3 sf4 sf5 sf6 sf7 sf8;obtain⟨qz,⟨q0,q1,q2,q3,q4,q5⟩,⟨qf0,qf1,qf2,qf3,qf4,qf5⟩⟩:=HV4.out.c6;obtain⟨zz,⟨z0,z1,z2,z3,z4,z5⟩,⟨zf0,zf1,zf2,zf3,zf4,zf5⟩⟩:=HZ4.out.c6;obtain⟨sz,⟨s0,s1,s2,s3,s4,s5,s6,s7,s8⟩,⟨sf0,sf1,sf2,sf3,sf4,sf5,sf6,sf7,sf8⟩⟩:=HS4.out.c9)|(go_at_call 26;(with_reducible refine(HK.out _ HB0.out).mono ?_);rintro e w1 ⟨rfl,hb⟩;have HB1:=hH (HB0.out.next hb);have HV1:=hH (HV0.out.bel hb HV0.out.lt);have HZ1:=hH (HZ0.out.bel hb HZ0.out.lt);have HS1:=hH (HS0.out.bel hb HS0.out.lt);clear hb;obtain⟨qz,⟨q0,q1,q2,q3,q4,q5⟩,⟨qf0,qf1,qf2,qf3,qf4,qf5⟩⟩:=HV1.out.c6;obtain⟨zz,⟨z0,z1,z2,z3,z4,z5⟩,⟨zf0,zf1,zf2,zf3,zf4,zf5⟩⟩:=HZ1.out.c6;obtain⟨sz,⟨s0,s1,s2,s3,s4,s5,s6,s7,s8⟩,⟨sf0,sf1,sf2,sf3,sf4,sf5,sf6,sf7,sf8⟩⟩:=HS1.out.c9)|(go_at_call 13;(with_reducible refine(HI.out _ HB1.out).mono ?_);rintro e w2 ⟨rfl,hb⟩;have HB2:=hH (HB1.out.next hb);have HV2:=hH (HV1.out.bel hb HV1.out.lt);have HZ2:=hH (HZ1.out.bel hb HZ1.out.lt);have HS2:=hH (HS1.out.bel hb HS1.out.lt);clear hb;clear qz q0 q1 q2 q3 q4 q5 qf0 qf1 qf2 qf3 qf4 qf5;clear zz z0 z1 z2 z3 z4 z5 zf0 zf1 zf2 zf3 zf4 zf5;clear sz s0 s1 s2 s3 s4 s5 s6 s7 s8 sf0 sf1 sf2 sf3 sf4 sf5 sf6 sf7 sf8;obtain⟨qz,⟨q0,q1,q2,q3,q4,q5⟩,⟨qf0,qf1,qf2,qf3,qf4,qf5⟩⟩:=HV2.out.c6;obtain⟨zz,⟨z0,z1,z2,z3,z4,z5⟩,⟨zf0,zf1,zf2,zf3,zf4,zf5⟩⟩:=HZ2.out.c6;obtain⟨sz,⟨s0,s1,s2,s3,s4,s5,s6,s7,s8⟩,⟨sf0,sf1,sf2,sf3,sf4,sf5,sf6,sf7,sf8⟩⟩:=HS2.out.c9)|(go_at_call 13;(with_reducible refine(HJ.out _ HB2.out).mono ?_);rintro e w3 ⟨rfl,hb⟩;have HB3:=hH (HB2.out.next hb);have HV3:=hH (HV2.out.bel hb HV2.out.lt);have HZ3:=hH (HZ2.out.bel hb HZ2.out.lt);have HS3:=hH (HS2.out.bel hb HS2.out.lt);clear hb;clear qz q0 q1 q2 q3 q4 q5 qf0 qf1 qf2 qf3 qf4 qf5;clear zz z0 z1 z2 z3 z4 z5 zf0 zf1 zf2 zf3 zf4 zf5;clear sz s0 s1 s2 s3 s4 s5 s6 s7 s8 sf0 sf1 sf2 sf3 sf4 sf5 sf6 sf7 sf8;obtain⟨qz,⟨q0,q1,q2,q3,q4,q5⟩,⟨qf0,qf1,qf2,qf3,qf4,qf5⟩⟩:=HV3.out.c6;obtain⟨zz,⟨z0,z1,z2,z3,z4,z5⟩,⟨zf0,zf1,zf2,zf3,zf4,zf5⟩⟩:=HZ3.out.c6;obtain⟨sz,⟨s0,s1,s2,s3,s4,s5,s6,s7,s8⟩,⟨sf0,sf1,sf2,sf3,sf4,sf5,sf6,sf7,sf8⟩⟩:=HS3.out.c9)|(go_at_call 88;(with_reducible refine(HN.out _ HB4.out).mono ?_);rintro e w5 ⟨k1,rfl,hi2,hb⟩;have HI2:=hH hi2;have HB5':=hH (HB4.out.next hb);have HB5:=hH (HB5'.out.next (bel_lit (o:=.cells #[.slice A all.length c,.int .i64 (k1:Int),.int .i64 E,.int .i64 t1.fe,.int .i64 t1.fa,.int .i64 dp] 54)));have HV5:=hH ((HV4.out.bel hb HV4.out.lt).alloc (.cells #[.slice A all.length c,.int .i64 (k1:Int),.int .i64 E,.int .i64 t1.fe,.int .i64 t1.fa,.int .i64 dp] 54));have HZ5:=hH ((HZ4.out.bel hb HZ4.out.lt).alloc (.cells #[.slice A all.length c,.int .i64 (k1:Int),.int .i64 E,.int .i64 t1.fe,.int .i64 t1.fa,.int .i64 dp] 54));have HS5:=hH ((HS4.out.bel hb HS4.out.lt).alloc (.cells #[.slice A all.length c,.int .i64 (k1:Int),.int .i64 E,.int .i64 t1.fe,.int .i64 t1.fa,.int .i64 dp] 54));have HM2:=hH (ris_at A all c k1 E t1 dp _ ⟨#[58]⟩ false hi2 (HTT.out.bel HB5.out) HSG);have HW5:=hH (Blk.new w5 54 #[.slice A all.length c,.int .i64 (k1:Int),.int .i64 E,.int .i64 t1.fe,.int .i64 t1.fa,.int .i64 dp]);clear hi2 hb;clear qz q0 q1 q2 q3 q4 q5 qf0 qf1 qf2 qf3 qf4 qf5;clear zz z0 z1 z2 z3 z4 z5 zf0 zf1 zf2 zf3 zf4 zf5;clear sz s0 s1 s2 s3 s4 s5 s6 s7 s8 sf0 sf1 sf2 sf3 sf4 sf5 sf6 sf7 sf8)|(go_at_call 13;(with_reducible refine HM2.out.mono ?_);rintro e w6 ⟨rfl,hb⟩;have HB6:=hH (HB5.out.next hb);have HV6:=hH (HV5.out.bel hb HV5.out.lt);have HZ6:=hH (HZ5.out.bel hb HZ5.out.lt);have HS6:=hH (HS5.out.bel hb HS5.out.lt);have HW6:=hH (HW5.out.bel hb HW5.out.lt);clear hb;obtain⟨qz,⟨q0,q1,q2,q3,q4,q5⟩,⟨qf0,qf1,qf2,qf3,qf4,qf5⟩⟩:=HV6.out.c6;obtain⟨zz,⟨z0,z1,z2,z3,z4,z5⟩,⟨zf0,zf1,zf2,zf3,zf4,zf5⟩⟩:=HZ6.out.c6;obtain⟨sz,⟨s0,s1,s2,s3,s4,s5,s6,s7,s8⟩,⟨sf0,sf1,sf2,sf3,sf4,sf5,sf6,sf7,sf8⟩⟩:=HS6.out.c9;obtain⟨gz,⟨g0,g1,g2,g3,g4,g5⟩,⟨gf0,gf1,gf2,gf3,gf4,gf5⟩⟩:=HW6.out.c6))
 rw [←HQ.out]
 exact bodyPost_ret (v:=.tuple #[rv A all.length c k1 E t1 dp,selV ⟨2,[],n1,0,0,0,false,false,none⟩ (.pointer none)]) (by simp [results,Tryz.results68,go_sem,selV,bs,z0,z1,z2,z3,z4,z5,s0,s1,s2,s3,s4,s5,s6,s7,s8]) rfl (RSelP.plain HE.out rfl HI2.out (fun e=>HD.out (HF1.out e)) ((HB6.out.far6 (k:=w.heap.size+1) (Nat.le_succ _)).far9b (k:=w.heap.size+2) (by omega)))
theorem rsel_index_b (h:RIn all k t)(hT:TkR w A all)(hd:t.fe=0→dp=(d:Int))(k4:kindS t≠4)(h42:isS [42] t=false)(h63:isS [63] t=false)(k3:kindS t≠3)(h58:isS [58] t=true)(n1:Int)(ok:Bool)(t1:PSt)(h1:numS E t=(n1,ok,t1))(hs:isS [58] t1=false):Calls Tryz.prog 68 #[rv A all.length c k E t dp] w (RSelP A all c E d w (selF E P d t)):=by
 have HB0:=hH ((((Bel.refl w.heap.size w).alloc (Nat.le_refl _) (.cells #[.slice A all.length c,.int .i64 (k:Int),.int .i64 E,.int .i64 t.fe,.int .i64 t.fa,.int .i64 dp] 54)).alloc (by simp) (.cells #[.slice none 0 0,.int .i64 0,.int .i64 0,.int .i64 0,.int .i64 0,.int .i64 0] 54)).alloc (by simp;omega) (.cells #[.int .i64 0,.string ⟨#[]⟩,.int .i64 0,.int .i64 0,.int .i64 0,.int .i64 0,.bool false,.bool false,.pointer none] 85))
 have HV0:=hH (((Blk.new w 54 #[.slice A all.length c,.int .i64 (k:Int),.int .i64 E,.int .i64 t.fe,.int .i64 t.fa,.int .i64 dp]).alloc (.cells #[.slice none 0 0,.int .i64 0,.int .i64 0,.int .i64 0,.int .i64 0,.int .i64 0] 54)).alloc (.cells #[.int .i64 0,.string ⟨#[]⟩,.int .i64 0,.int .i64 0,.int .i64 0,.int .i64 0,.bool false,.bool false,.pointer none] 85))
 have HZ0:=hH ((Blk.new1 w (.cells #[.slice A all.length c,.int .i64 (k:Int),.int .i64 E,.int .i64 t.fe,.int .i64 t.fa,.int .i64 dp] 54) 54 #[.slice none 0 0,.int .i64 0,.int .i64 0,.int .i64 0,.int .i64 0,.int .i64 0]).alloc (.cells #[.int .i64 0,.string ⟨#[]⟩,.int .i64 0,.int .i64 0,.int .i64 0,.int .i64 0,.bool false,.bool false,.pointer none] 85))
 have HS0:=hH (Blk.new2 w (.cells #[.slice A all.length c,.int .i64 (k:Int),.int .i64 E,.int .i64 t.fe,.int .i64 t.fa,.int .i64 dp] 54) (.cells #[.slice none 0 0,.int .i64 0,.int .i64 0,.int .i64 0,.int .i64 0,.int .i64 0] 54) 85 #[.int .i64 0,.string ⟨#[]⟩,.int .i64 0,.int .i64 0,.int .i64 0,.int .i64 0,.bool false,.bool false,.pointer none])
 obtain⟨q,hq⟩:∃q,kindS t=q:=⟨_,rfl⟩
 have hq4:(q==4)=false:=by rw [beq_eq_false_iff_ne,←hq];exact k4
 have hq3:(q != 3)=true:=by rw [bne_iff_ne,←hq];exact k3
 have HK:=hH (fun W (hb:Bel w.heap.size w W)=>rkind_at A all c k E t dp W q h (hT.bel hb) (hH hq))
 have HI:=hH (fun W (hb:Bel w.heap.size w W)=>ris_at A all c k E t dp W ⟨#[42]⟩ false h (hT.bel hb) (hH h42))
 have HJ:=hH (fun W (hb:Bel w.heap.size w W)=>ris_at A all c k E t dp W ⟨#[63]⟩ false h (hT.bel hb) (hH h63))
 have HM:=hH (fun W (hb:Bel w.heap.size w W)=>ris_at A all c k E t dp W ⟨#[58]⟩ true h (hT.bel hb) (hH h58))
 have HN:=hH (fun W (hb:Bel w.heap.size w W)=>rnumber_any A all c k E t dp W h (hT.bel hb))
 have HD:=hH hd
 have HTT:=hH hT
 unfold RNumP at HN
 rw [h1] at HN
 have HE:=hH (show selF E P d t=(⟨2,[],n1,0,0,0,false,false,none⟩,t1) by unfold selF;rw [if_neg k4,ite_ff h42,ite_ff h63,h58,Bool.or_true,if_pos rfl];unfold numbersS;rw [h1];simp only;rw [ite_ff hs])
 have HF1:=hH (show t1.fe=0→t.fe=0 from fun e=>Classical.byContradiction fun hf=>by rw [numS_bad hf] at h1;simp only [Prod.mk.injEq] at h1;rw [←h1.2.2] at e;exact hf e)
 have HSG:=hH hs
 clear h hT hq k4 h42 h63 k3 hd h1 hs h58
 go_enter Tryz.func68, Tryz.ntmps68
 generalize hQ:bodyPost Tryz.prog Tryz.f68 (RSelP A all c E d w (selF E P d t))=Q
 have HQ:=hH hQ;clear hQ
 go_wp2_with (first|(go_at_call 26;(with_reducible refine(HK.out _ HB3.out).mono ?_);rintro e w4 ⟨rfl,hb⟩;have HB4:=hH (HB3.out.next hb);have HV4:=hH (HV3.out.bel hb HV3.out.lt);have HZ4:=hH (HZ3.out.bel hb HZ3.out.lt);have HS4:=hH (HS3.out.bel hb HS3.out.lt);clear hb;clear qz q0 q1 q2 q3 q4 q5 qf0 qf1 qf2 qf3 qf4 qf5;clear zz z0 z1 z2 z3 z4 z5 zf0 zf1 zf2 zf3 zf4 zf5;clear sz s0 s1 s2 s3 s4 s5 s6 s7 s8 sf0 sf1 sf2 sf3 sf4 sf5 sf6 sf7 sf8;obtain⟨qz,⟨q0,q1,q2,q3,q4,q5⟩,⟨qf0,qf1,qf2,qf3,qf4,qf5⟩⟩:=HV4.out.c6;obtain⟨zz,⟨z0,z1,z2,z3,z4,z5⟩,⟨zf0,zf1,zf2,zf3,zf4,zf5⟩⟩:=HZ4.out.c6;obtain⟨sz,⟨s0,s1,s2,s3,s4,s5,s6,s7,s8⟩,⟨sf0,sf1,sf2,sf3,sf4,sf5,sf6,sf7,sf8⟩⟩:=HS4.out.c9)|(go_at_call 26;(with_reducible refine(HK.out _ HB0.out).mono ?_);rintro e w1 ⟨rfl,hb⟩;have HB1:=hH (HB0.out.next hb);have HV1:=hH (HV0.out.bel hb HV0.out.lt);have HZ1:=hH (HZ0.out.bel hb HZ0.out.lt);have HS1:=hH (HS0.out.bel hb HS0.out.lt);clear hb;obtain⟨qz,⟨q0,q1,q2,q3,q4,q5⟩,⟨qf0,qf1,qf2,qf3,qf4,qf5⟩⟩:=HV1.out.c6;obtain⟨zz,⟨z0,z1,z2,z3,z4,z5⟩,⟨zf0,zf1,zf2,zf3,zf4,zf5⟩⟩:=HZ1.out.c6;obtain⟨sz,⟨s0,s1,s2,s3,s4,s5,s6,s7,s8⟩,⟨sf0,sf1,sf2,sf3,sf4,sf5,sf6,sf7,sf8⟩⟩:=HS1.out.c9)|(go_at_call 13;(with_reducible refine(HI.out _ HB1.out).mono ?_);rintro e w2 ⟨rfl,hb⟩;have HB2:=hH (HB1.out.next hb);have HV2:=hH (HV1.out.bel hb HV1.out.lt);have HZ2:=hH (HZ1.out.bel hb HZ1.out.lt);have HS2:=hH (HS1.out.bel hb HS1.out.lt);clear hb;clear qz q0 q1 q2 q3 q4 q5 qf0 qf1 qf2 qf3 qf4 qf5;clear zz z0 z1 z2 z3 z4 z5 zf0 zf1 zf2 zf3 zf4 zf5;clear sz s0 s1 s2 s3 s4 s5 s6 s7 s8 sf0 sf1 sf2 sf3 sf4 sf5 sf6 sf7 sf8;obtain⟨qz,⟨q0,q1,q2,q3,q4,q5⟩,⟨qf0,qf1,qf2,qf3,qf4,qf5⟩⟩:=HV2.out.c6;obtain⟨zz,⟨z0,z1,z2,z3,z4,z5⟩,⟨zf0,zf1,zf2,zf3,zf4,zf5⟩⟩:=HZ2.out.c6;obtain⟨sz,⟨s0,s1,s2,s3,s4,s5,s6,s7,s8⟩,⟨sf0,sf1,sf2,sf3,sf4,sf5,sf6,sf7,sf8⟩⟩:=HS2.out.c9)|(go_at_call 13;(with_reducible refine(HJ.out _ HB2.out).mono ?_);rintro e w3 ⟨rfl,hb⟩;have HB3:=hH (HB2.out.next hb);have HV3:=hH (HV2.out.bel hb HV2.out.lt);have HZ3:=hH (HZ2.out.bel hb HZ2.out.lt);have HS3:=hH (HS2.out.bel hb HS2.out.lt);clear hb;clear qz q0 q1 q2 q3 q4 q5 qf0 qf1 qf2 qf3 qf4 qf5;clear zz z0 z1 z2 z3 z4 z5 zf0 zf1 zf2 zf3 zf4 zf5;clear sz s0 s1 s2 s3 s4 s5 s6 s7 s8 sf0 sf1 sf2 sf3 sf4 sf5 sf6 sf7 sf8;obtain⟨qz,⟨q0,q1,q2,q3,q4,q5⟩,⟨qf0,qf1,qf2,qf3,qf4,qf5⟩⟩:=HV3.out.c6;obtain⟨zz,⟨z0,z1,z2,z3,z4,z5⟩,⟨zf0,zf1,zf2,zf3,zf4,zf5⟩⟩:=HZ3.out.c6;obtain⟨sz,⟨s0,s1,s2,s3,s4,s5,s6,s7,s8⟩,⟨sf0,sf1,sf2,sf3,sf4,sf5,sf6,sf7,sf8⟩⟩:=HS3.out.c9)|(go_at_call 13;(with_reducible refine(HM.out _ HB4.out).mono ?_);rintro e w5 ⟨rfl,hb⟩;have HB5:=hH (HB4.out.next hb);have HV5:=hH (HV4.out.bel hb HV4.out.lt);have HZ5:=hH (HZ4.out.bel hb HZ4.out.lt);have HS5:=hH (HS4.out.bel hb HS4.out.lt);clear hb;clear qz q0 q1 q2 q3 q4 q5 qf0 qf1 qf2 qf3 qf4 qf5;clear zz z0 z1 z2 z3 z4 z5 zf0 zf1 zf2 zf3 zf4 zf5;clear sz s0 s1 s2 s3 s4 s5 s6 s7 s8 sf0 sf1 sf2 sf3 sf4 sf5 sf6 sf7 sf8;obtain⟨qz,⟨q0,q1,q2,q3,q4,q5⟩,⟨qf0,qf1,qf2,qf3,qf4,qf5⟩⟩:=HV5.out.c6;obtain⟨zz,⟨z0,z1,z2,z3,z4,z5⟩,⟨zf0,zf1,zf2,zf3,zf4,zf5⟩⟩:=HZ5.out.c6;obtain⟨sz,⟨s0,s1,s2,s3,s4,s5,s6,s7,s8⟩,⟨sf0,sf1,sf2,sf3,sf4,sf5,sf6,sf7,sf8⟩⟩:=HS5.out.c9)|(go_at_call 88;(with_reducible refine(HN.out _ HB5.out).mono ?_);rintro e w6 ⟨k1,rfl,hi2,hb⟩;have HI2:=hH hi2;have HB6':=hH (HB5.out.next hb);have HB6:=hH (HB6'.out.next (bel_lit (o:=.cells #[.slice A all.length c,.int .i64 (k1:Int),.int .i64 E,.int .i64 t1.fe,.int .i64 t1.fa,.int .i64 dp] 54)));have HV6:=hH ((HV5.out.bel hb HV5.out.lt).alloc (.cells #[.slice A all.length c,.int .i64 (k1:Int),.int .i64 E,.int .i64 t1.fe,.int .i64 t1.fa,.int .i64 dp] 54));have HZ6:=hH ((HZ5.out.bel hb HZ5.out.lt).alloc (.cells #[.slice A all.length c,.int .i64 (k1:Int),.int .i64 E,.int .i64 t1.fe,.int .i64 t1.fa,.int .i64 dp] 54));have HS6:=hH ((HS5.out.bel hb HS5.out.lt).alloc (.cells #[.slice A all.length c,.int .i64 (k1:Int),.int .i64 E,.int .i64 t1.fe,.int .i64 t1.fa,.int .i64 dp] 54));have HM2:=hH (ris_at A all c k1 E t1 dp _ ⟨#[58]⟩ false hi2 (HTT.out.bel HB6.out) HSG);have HW6:=hH (Blk.new w6 54 #[.slice A all.length c,.int .i64 (k1:Int),.int .i64 E,.int .i64 t1.fe,.int .i64 t1.fa,.int .i64 dp]);clear hi2 hb;clear qz q0 q1 q2 q3 q4 q5 qf0 qf1 qf2 qf3 qf4 qf5;clear zz z0 z1 z2 z3 z4 z5 zf0 zf1 zf2 zf3 zf4 zf5;clear sz s0 s1 s2 s3 s4 s5 s6 s7 s8 sf0 sf1 sf2 sf3 sf4 sf5 sf6 sf7 sf8)|(go_at_call 13;(with_reducible refine HM2.out.mono ?_);rintro e w7 ⟨rfl,hb⟩;have HB7:=hH (HB6.out.next hb);have HV7:=hH (HV6.out.bel hb HV6.out.lt);have HZ7:=hH (HZ6.out.bel hb HZ6.out.lt);have HS7:=hH (HS6.out.bel hb HS6.out.lt);have HW7:=hH (HW6.out.bel hb HW6.out.lt);clear hb;obtain⟨qz,⟨q0,q1,q2,q3,q4,q5⟩,⟨qf0,qf1,qf2,qf3,qf4,qf5⟩⟩:=HV7.out.c6;obtain⟨zz,⟨z0,z1,z2,z3,z4,z5⟩,⟨zf0,zf1,zf2,zf3,zf4,zf5⟩⟩:=HZ7.out.c6;obtain⟨sz,⟨s0,s1,s2,s3,s4,s5,s6,s7,s8⟩,⟨sf0,sf1,sf2,sf3,sf4,sf5,sf6,sf7,sf8⟩⟩:=HS7.out.c9;obtain⟨gz,⟨g0,g1,g2,g3,g4,g5⟩,⟨gf0,gf1,gf2,gf3,gf4,gf5⟩⟩:=HW7.out.c6))
 rw [←HQ.out]
 exact bodyPost_ret (v:=.tuple #[rv A all.length c k1 E t1 dp,selV ⟨2,[],n1,0,0,0,false,false,none⟩ (.pointer none)]) (by simp [results,Tryz.results68,go_sem,selV,bs,z0,z1,z2,z3,z4,z5,s0,s1,s2,s3,s4,s5,s6,s7,s8]) rfl (RSelP.plain HE.out rfl HI2.out (fun e=>HD.out (HF1.out e)) ((HB7.out.far6 (k:=w.heap.size+1) (Nat.le_succ _)).far9b (k:=w.heap.size+2) (by omega)))
end
end

end Go.Proofs.YtjbdcjcfijjiiaaGreatDoor

/- PG50: Jd, RowA, RowE joined. -/
import Derived.ProofKit
import Derived.OpenShut
import Derived.ShutString
import Derived.ChangeSame
import Derived.Lay
import Derived.LaidMore
import Derived.Stop.Joined
import Derived.Stop.LaidErr
import Derived.Test.YtpcbcodmocmilaaGreatDoorPG49
import Derived.Test.YtpcbcodmocmilaaGreatDoorPA0
import Derived.Test.YtpcbcodmocmilaaGreatDoorRows
namespace Go.Proofs.YtpcbcodmocmilaaGreatDoor
open Go.RowKit
/- law19: CodePlain (printed by gen_jd.py). -/
section
open Go.RowKit
set_option maxRecDepth 100000
set_option maxHeartbeats 2000000
theorem sels_next {l:List SegT}{i:Nat}{x:SegT}(h:l[i]? = some x):selsOf (l.take (i+1))=selsOf (l.take i)++x.sels:=by
 unfold selsOf
 rw [List.take_add_one,h,List.flatMap_append]
 simp
theorem sels_all (l:List SegT){i:Nat}(h:l.length≤i):selsOf (l.take i)=selsOf l:=by rw [List.take_of_length_le h]
theorem sels_tle (l:List SegT)(i:Nat):(selsOf (l.take i)).length≤(selsOf l).length:=by
 have:selsOf l=selsOf (l.take i)++selsOf (l.drop i):=by unfold selsOf;rw [←List.flatMap_append,List.take_append_drop]
 rw [this,List.length_append];omega
theorem flt_next {l:List SelT}{k:Nat}{y:SelT}(h:l[k]? = some y):fltN (l.take (k+1))=fltN (l.take k)+if y.kind==4 then 1 else 0:=by
 rw [List.take_add_one,h,fltN_app]
 simp only [Option.toList_some]
 rw [fltN_cons]
 simp [fltN]
theorem cpl_len (s:ByteArray)(w:World)(h1:400<s.size):Calls Tryz.prog 4 #[.string s] w fun e w'=>e=.returned (.bool true)∧Bel w.heap.size w w':=by
 have M:=hH (Own.start [] w (fun _=>True) fun _ _=>trivial)
 have h1i:(400:Int)<(s.size:Int):=by omega
 go_enter Tryz.func4, Tryz.ntmps4
 go_wp2_with (go_at_call 10;(with_reducible refine(awake19 _).mono ?_);rintro e w' ⟨rfl,hb⟩;replace M:=hH (M.out.bel hb);clear hb)
 go_ret
 exact⟨by simp,M.out.bel0⟩
theorem cpl_err (s:ByteArray)(w:World)(h1:s.size≤400)(x a:Int)(hp:parseT true s.data.toList=.error (x,a)):Calls Tryz.prog 4 #[.string s] w fun e w'=>e=.returned (.bool true)∧Bel w.heap.size w w':=by
 have M:=hH (Own.start [] w (fun _=>True) fun _ _=>trivial)
 have hx:(x != 0)=true:=by simpa using err_ne hp
 have HP:=hH hp
 clear hp
 go_enter Tryz.func4, Tryz.ntmps4
 go_wp2_with (first|(go_at_call 10;(with_reducible refine(awake19 _).mono ?_);rintro e w' ⟨rfl,hb⟩;replace M:=hH (M.out.bel hb);clear hb)|((with_reducible refine g_al 37 3 ?_);refine l_al F_Path M.out ?_;clear M;intro g3 w' hg3 M)|((with_reducible refine g_al 31 4 ?_);refine l_al F_Flq M.out ?_;clear M;intro g4 w' hg4 M)|((with_reducible refine g_al 28 5 ?_);refine l_al F_Code M.out ?_;clear M;intro g5 w' hg5 M)|((with_reducible refine g_al 31 6 ?_);refine l_al F_Flq M.out ?_;clear M;intro g6 w' hg6 M)|((with_reducible refine g_st 37 ?_);refine l_st F_Path rfl rfl M.out (by repeat constructor) (by exact rfl) (by exact rfl) (by exact rfl) ?_;clear M;intro w' M)|((with_reducible refine g_st 31 ?_);refine l_st F_Flq rfl rfl M.out (by repeat constructor) (by exact rfl) (by exact rfl) (by exact rfl) ?_;clear M;intro w' M)|((with_reducible refine g_st 28 ?_);refine l_st F_Code rfl rfl M.out (by repeat constructor) (by exact rfl) (by exact rfl) (by exact rfl) ?_;clear M;intro w' M)|((with_reducible refine g_ld 29 ?_);refine l_ld1 O_ern rfl M.out (by repeat constructor) (by exact rfl) ?_)|((with_reducible refine g_ld 31 ?_);refine l_ld F_Flq rfl M.out (by repeat constructor) (by exact rfl) ?_)|(go_at_call 11;(with_reducible refine(queryc_err (s:=s) _ (by omega) HP.out).mono ?_);rintro e w' ⟨rfl,hb⟩;replace M:=hH (M.out.bel hb);clear hb)|(go_at_call 14;(with_reducible refine(rparsec_err (s:=s) _ (by omega) HP.out).mono ?_);rintro e w' ⟨rfl,hb⟩;replace M:=hH (M.out.bel hb);clear hb))
 go_ret
 exact⟨by simp,M.out.bel0⟩
theorem cpl_ok (s:ByteArray)(w:World)(h1:s.size≤400)(p:PathT)(hp:parseT true s.data.toList=.ok p):Calls Tryz.prog 4 #[.string s] w fun e w'=>e=.returned (.bool true)∧Bel w.heap.size w w':=by
 have M:=hH (Own.start [] w (fun _=>True) fun _ _=>trivial)
 obtain⟨a1,a2,-⟩:=parse_wf hp
 have hl:s.data.toList.length≤400:=by rw [len_toList];exact h1
 have hsw:=sels_wt (wtN 200) p
 have hfl:=flt_le (selsOf p.segs)
 have HPL:=hH (plain_code a1 (by omega))
 have HWT:=hH (show wtP (wtN 200) p≤4000 by omega)
 have hn:(selsOf p.segs).length+p.segs.length≤1600:=by omega
 have HP:=hH hp
 clear hp a1 a2 hl hsw
 go_enter Tryz.func4, Tryz.ntmps4
 go_upto_region 7 with(first|(go_at_call 10;(with_reducible refine(awake19 _).mono ?_);rintro e w' ⟨rfl,hb⟩;replace M:=hH (M.out.bel hb);clear hb)|((with_reducible refine g_al 37 3 ?_);refine l_al F_Path M.out ?_;clear M;intro g3 w' hg3 M)|((with_reducible refine g_al 31 4 ?_);refine l_al F_Flq M.out ?_;clear M;intro g4 w' hg4 M)|((with_reducible refine g_al 28 5 ?_);refine l_al F_Code M.out ?_;clear M;intro g5 w' hg5 M)|((with_reducible refine g_al 31 6 ?_);refine l_al F_Flq M.out ?_;clear M;intro g6 w' hg6 M)|((with_reducible refine g_st 37 ?_);refine l_st F_Path rfl rfl M.out (by repeat constructor) (by exact rfl) (by exact rfl) (by exact rfl) ?_;clear M;intro w' M)|((with_reducible refine g_st 31 ?_);refine l_st F_Flq rfl rfl M.out (by repeat constructor) (by exact rfl) (by exact rfl) (by exact rfl) ?_;clear M;intro w' M)|((with_reducible refine g_st 28 ?_);refine l_st F_Code rfl rfl M.out (by repeat constructor) (by exact rfl) (by exact rfl) (by exact rfl) ?_;clear M;intro w' M)|((with_reducible refine g_ld 29 ?_);refine l_ld1 O_ern rfl M.out (by repeat constructor) (by exact rfl) ?_)|((with_reducible refine g_ld 31 ?_);refine l_ld F_Flq rfl M.out (by repeat constructor) (by exact rfl) ?_)|(go_at_call 11;(with_reducible refine(queryc_ok (s:=s) (p:=p) _ (by omega) HP.out HWT.out).mono ?_);rintro e w' ⟨A1,A2,A3,A4,k1,k2,k3,k4,rfl,hcr,⟨f1,f2,f3,f4⟩,-,hb⟩;have HFA:=hH (show (∀a,A1=some a→a.spot=none)∧(∀a,A2=some a→a.spot=none)∧(∀a,A3=some a→a.spot=none)∧(∀a,A4=some a→a.spot=none) from⟨fun a e=>(f1 a e).2,fun a e=>(f2 a e).2,fun a e=>(f3 a e).2,fun a e=>(f4 a e).2⟩);have Mn:=M.out.addC hb hcr f1 f2 f3 f4;replace M:=hH Mn;clear Mn hb hcr f1 f2 f3 f4)|(go_at_call 14;(with_reducible refine(rparsec_ok (s:=s) _ (by omega) HP.out).mono ?_);rintro e w' ⟨m,A,c,rfl,hsg,hb⟩;have Mn:=M.out.addK (G:=fun K y=>SegsG K (ExR K m y) y (.slice A p.segs.length c) p.segs) (fun h hk=>SegsG.keep h hk fun _ _ h=>ExR.keep hk m m (Nat.le_refl _) _ _ h) hb hsg;replace M:=hH Mn;clear Mn hb hsg))
 obtain⟨A0,c0,b,off,F,e0,hc0,hA0,hO,hF⟩:=SegsG.fn M.out.now.1.2
 simp only [Value.slice.injEq,true_and] at e0
 obtain⟨rfl,rfl⟩:=e0
 have HO:=hH hO
 have HF:=hH hF
 clear hO hF
 go_wp2
 go_loopg [7,8,9] p.segs.length (fun gk nv fv iv wr=>∃i:Nat,i≤p.segs.length∧gk=p.segs.length-i∧nv=.int .i64 ((selsOf (p.segs.take i)).length:Int)∧fv=.int .i64 (fltN (selsOf (p.segs.take i)):Int)∧iv=.int .i64 (i:Int)∧w'=wr)
 case atStart=>exact⟨0,Nat.zero_le _,rfl,rfl,rfl,rfl,rfl⟩
 case round =>
  obtain⟨i,hi,hgk,rfl,rfl,rfl,rfl⟩:=hrel
  have HGK:=hH hgk
  clear hgk
  have hb1:=sels_tle p.segs i
  have hb2:=flt_le (selsOf (p.segs.take i))
  by_cases hlt:i<p.segs.length
  ·obtain⟨x,hx⟩:∃x,p.segs[i]? = some x:=⟨_,List.getElem?_eq_getElem hlt⟩
   obtain⟨d,B,n,e,u,v,sl,hFi,hc1,hx1,hB,hl1,hs1⟩:=HO.out.opened hlt
   obtain⟨-,e2,e3⟩:=HF.out i x hx
   rw [hFi] at e2 e3
   dsimp only at e2 e3
   subst e2
   obtain rfl:=hA0 (by omega)
   have hlti:(i:Int)<(p.segs.length:Int):=by omega
   have HC:=hH (hc1 _ (Kept.refl _ _) 1 _ rfl)
   have hnx:=sels_next hx
   have hb3:=sels_tle p.segs (i+1)
   rw [hnx,List.length_append] at hb3
   have hfx:=flt_le x.sels
   have HS:=hH hs1
   have HE:=hH e3
   clear hc1 hs1 e3 hFi hl1
   go_wp2_with (first|((with_reducible refine g_ld 35 ?_);refine l_ld1 O_sSeg rfl M.out (by repeat constructor) (by exact rfl) ?_)|((with_reducible refine g_ld 42 ?_);refine l_ldc O_sSel rfl (HC.out) ?_))
   go_loopg [8,10] x.sels.length (fun gk fv kv wr=>∃k:Nat,k≤x.sels.length∧gk=x.sels.length-k∧fv=.int .i64 ((fltN (selsOf (p.segs.take i)):Int)+(fltN (x.sels.take k):Int))∧kv=.int .i64 (k:Int)∧w'=wr)
   case atStart=>exact⟨0,Nat.zero_le _,rfl,by simp [fltN],rfl,rfl⟩
   case round =>
    obtain⟨k,hk,hgk,rfl,rfl,rfl⟩:=hrel
    have HGJ:=hH hgk
    clear hgk
    have hb4:=flt_le (x.sels.take k)
    rw [List.length_take] at hb4
    by_cases hlk:k<x.sels.length
    ·obtain⟨y,hy⟩:∃y,x.sels[k]? = some y:=⟨_,List.getElem?_eq_getElem hlk⟩
     obtain⟨pv,hpv,-⟩:=HE.out k y hy
     obtain rfl:=hB (by omega)
     have hk0:=HS.out k hlk _ (Kept.refl _ _)
     rw [hpv] at hk0
     have HK:=hH (hk0 0 _ rfl)
     have hlkt:(k:Int)<(x.sels.length:Int):=by omega
     have hfn:=flt_next hy
     clear hk0 hpv
     cases hkd:(y.kind==4)
     ·rw [hkd] at hfn
      simp only [Bool.false_eq_true,if_false,Nat.add_zero] at hfn
      go_wp2_with (first|((with_reducible refine g_ld 35 ?_);refine l_ld1 O_sSeg rfl M.out (by repeat constructor) (by exact rfl) ?_)|((with_reducible refine g_ld 42 ?_);refine l_ldc O_sSel rfl (HC.out) ?_)|((with_reducible refine g_ld 3 ?_);refine l_ldc O_int rfl (HK.out) ?_))
      go_roundg (x.sels.length-(k+1))
      case measure=>rw [HGJ.out];omega
      case rel=>exact⟨k+1,by omega,rfl,by rw [hfn],by go_num,rfl⟩
     ·rw [hkd] at hfn
      simp only [if_true] at hfn
      go_wp2_with (first|((with_reducible refine g_ld 35 ?_);refine l_ld1 O_sSeg rfl M.out (by repeat constructor) (by exact rfl) ?_)|((with_reducible refine g_ld 42 ?_);refine l_ldc O_sSel rfl (HC.out) ?_)|((with_reducible refine g_ld 3 ?_);refine l_ldc O_int rfl (HK.out) ?_))
      go_roundg (x.sels.length-(k+1))
      case measure=>rw [HGJ.out];omega
      case rel=>exact⟨k+1,by omega,rfl,by rw [hfn];go_num,by go_num,rfl⟩
    ·obtain rfl:k=x.sels.length:=by omega
     go_wp2_with (first|((with_reducible refine g_ld 35 ?_);refine l_ld1 O_sSeg rfl M.out (by repeat constructor) (by exact rfl) ?_)|((with_reducible refine g_ld 42 ?_);refine l_ldc O_sSel rfl (HC.out) ?_))
     go_roundg (p.segs.length-(i+1))
     case measure=>rw [HGK.out];omega
     case rel=>exact⟨i+1,by omega,rfl,by rw [hnx,List.length_append];go_num,by rw [hnx,fltN_app];(try rw [List.take_length]);first|go_num|rw [Int.natCast_add],by go_num,rfl⟩
  ·obtain rfl:i=p.segs.length:=by omega
   rw [sels_all _ (Nat.le_refl _)] at *
   generalize fltN (selsOf p.segs)=f at *
   generalize (selsOf p.segs).length=n at *
   by_cases hf:0<f
   ·have hfi:(0:Int)<(f:Int):=by omega
    obtain⟨p1,p2⟩:=HPL.out.1 hf
    have hg1:(2:Int)*(f:Int)≤((codeT p).is.length:Int):=by omega
    have hg2:(f:Int)<((codeT p).ps.length:Int):=by omega
    go_wp2_with (first|((with_reducible refine g_ld 35 ?_);refine l_ld1 O_sSeg rfl M.out (by repeat constructor) (by exact rfl) ?_)|((with_reducible refine g_ld 26 ?_);refine l_ld1 O_sIns rfl M.out (by repeat constructor) (by exact rfl) ?_)|((with_reducible refine g_ld 23 ?_);refine l_ld1 O_sCPath rfl M.out (by repeat constructor) (by exact rfl) ?_)|((with_reducible refine q_gl 23 ?_);refine q_ld1g O_sCPath rfl rfl M.out (by repeat constructor) (by exact rfl) ?_))
    go_ret
    exact⟨by simp,M.out.bel0⟩
   ·obtain rfl:f=0:=by omega
    obtain⟨p1,p2,p3,p4⟩:=HPL.out.2 rfl
    rw [p1,p2,p3,p4] at M
    go_wp2_with (first|((with_reducible refine g_ld 35 ?_);refine l_ld1 O_sSeg rfl M.out (by repeat constructor) (by exact rfl) ?_)|((with_reducible refine g_ld 23 ?_);refine l_ld1 O_sCPath rfl M.out (by repeat constructor) (by exact rfl) ?_)|((with_reducible refine g_ld 24 ?_);refine l_ld1 O_sCSeg rfl M.out (by repeat constructor) (by exact rfl) ?_)|((with_reducible refine g_ld 25 ?_);refine l_ld1 O_sCSel rfl M.out (by repeat constructor) (by exact rfl) ?_)|((with_reducible refine g_ld 26 ?_);refine l_ld1 O_sIns rfl M.out (by repeat constructor) (by exact rfl) ?_)|((with_reducible refine q_gl 24 ?_);refine q_ld1g O_sCSeg rfl rfl M.out (by repeat constructor) (by exact rfl) ?_)|((with_reducible refine q_gl 35 ?_);refine q_ld1g O_sGg rfl rfl M.out (by repeat constructor) (by exact rfl) ?_)|((with_reducible refine q_gl 25 ?_);refine q_ld1g O_sCSel rfl rfl M.out (by repeat constructor) (by exact rfl) ?_)|((with_reducible refine q_gl 26 ?_);refine q_ld1g O_sIns rfl rfl M.out (by repeat constructor) (by exact rfl) ?_))
    go_ret
    exact⟨by simp,M.out.bel0⟩
theorem cpl_any (s:ByteArray)(w:World)(_:s.size≤maxLen):Calls Tryz.prog 4 #[.string s] w fun e w'=>e=.returned (.bool true)∧Bel w.heap.size w w':=by
 by_cases h1:s.size≤400
 ·cases hp:parseT true s.data.toList with
  | error x=>exact cpl_err s w h1 x.1 x.2 hp
  | ok p=>exact cpl_ok s w h1 p hp
 ·exact cpl_len s w (by omega)
end
/- The row's last step where of the world behind the call 'Bel' is known. -/
section
open Go.RowKit Go.WideShapes Go.ChangeShapes
theorem Bel.frame {W W':World}(h:Bel W.heap.size W W')(may:MemPlace→Prop):W.keptBut W' may:=by
 refine⟨h.os,h.output,fun i hi=>?_⟩
 rw [h.block i hi]
 split <;> simp_all
section
variable  {H:Type}{enc:TypeId×Value→H}{P:Program}
theorem post_of_bel {f:Func}{s:ChangeSpec}{apart fresh handsOn again:Bool}{W W':World}{args:Array Value}{v:Value}{ds gs:List (DataW H)}{before pa pv:List MemPlace}
  (hW:DataW.Whole enc P f.params.toList s.vars apart W args.toList ds gs before)
  (hres:∀(b:Nat) (sp:Nat→Bool) (hd:Bool),DataW.TrodAll enc P W' b sp hd f.resultTypes.toList (v.resultList f.resultTypes.size) (s.fn H (ds++gs)).results [])
  (hargs:∀sp:Nat→Bool,(∀p∈before,sp p.block=true)→DataW.TrodAll enc P W' 0 sp true f.params.toList args.toList (s.fn H (ds++gs)).args pa)
  (hvars:∀sp:Nat→Bool,(∀p∈before,sp p.block=true)→DataW.TrodVars enc P W' sp s.vars (s.fn H (ds++gs)).vars pv)
  (hps:before=pa++pv) (hb:Bel W.heap.size W W')
  (hok:∀(j:Nat) (t:TypeId) (r:Value),f.resultTypes[j]? = some t→(v.resultList f.resultTypes.size)[j]? = some r→Value.okWide P W' .any 0 t r) :
  s.post enc P f apart fresh handsOn again W args v W':=by
 have hlt:∀p∈before,p.block<W.heap.size:=fun p hp=>hW.lt p hp
 have hold:∀p∈before,(fun b=>decide (b<W.heap.size)) p.block=true:=fun p hp=>by simpa using hlt p hp
 refine⟨ds,gs,before,[],pa,pv,hW,hres _ _ _,hargs _ hold,hvars _ hold,World.keptBut_mono (fun p hp=>⟨hp,?_⟩) (hb.frame (·∈before)),fun _=>?_⟩
 ·rw [hps,List.mem_append] at hp
  exact Or.inr hp
 ·obtain⟨_,_,_,_,_,hz,hn⟩:=hW
  refine⟨hok,_,_,([]++pa)++pv,⟨[]++pa,pv,trodAll_append (hargs _ (fun _ _=>rfl)) (hres _ _ _),hvars _ (fun _ _=>rfl),rfl,?_,?_⟩,?_⟩
  ·intro b off hp
   have hin:MemPlace.cell b off∈before:=by rw [hps];simpa using hp
   rw [hb.frozen (hlt _ hin)]
   exact hz b off hin
  ·intro ha
   have:=hn ha
   rw [hps] at this
   simpa using this
  ·intro p hp _
   rw [hps]
   simpa using hp
end
theorem own :ownKnob Tryz.prog.godebug=none:=by kernel_rfl
end
/- The rows' common part: the library's tables of utf8 as they are laid (no run of the door: laid by the kit's law). -/
section
open Go.ChangeShapes Go.WideShapes Go.ChangeAt Go.RowKit
def laid2 :List (String×DataW Unit):=[("unicode/utf8.acceptRanges",Rows.laid_unicode_utf8_acceptRanges),("unicode/utf8.first",Rows.laid_unicode_utf8_first)]
theorem door_met (os:Os)(args:Array Value):laidMetH Tryz.prog laid2 ((World.laidAll Tryz.prog os laid2).forCall (fun _ _=>0) ⟨#[],args,[]⟩).memory:=by
 rw [MakeChecks.laidMetH_plain _ _ _ (by kernel_rfl)]
 exact laidMet_laidAll _ (by kernel_rfl) (by kernel_rfl)
theorem door_shaped (os:Os):(World.laidAll Tryz.prog os laid2).Shaped Tryz.prog:=World.shaped_of_ZipB (by kernel_rfl) (by kernel_rfl)
end

end Go.Proofs.YtpcbcodmocmilaaGreatDoor

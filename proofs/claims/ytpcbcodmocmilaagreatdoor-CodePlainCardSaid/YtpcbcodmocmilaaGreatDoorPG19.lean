/- PG19: Cm, Cn, Yf joined. -/
import Derived.Test.YtpcbcodmocmilaaGreatDoorPG14
import Derived.Test.YtpcbcodmocmilaaGreatDoorPG13
import Derived.Test.YtpcbcodmocmilaaGreatDoorPG05
import Derived.Test.YtpcbcodmocmilaaGreatDoorPG11
namespace Go.Proofs.YtpcbcodmocmilaaGreatDoor
open Go.RowKit
/- ref19: Make (printed by gen_cm.py). -/
section
open Go.RowKit
section
variable  {X:List Nat}{w0 w w':World}{L:List BlkE}{rs:List RowE}{J:World→Prop}{A1 A2 A3 A4 A5 B1 B2 B3 B4 B5:Option Addr}{c:CodeD}{W:List (PathT×Value)}
end
theorem Own.swap {X:List Nat}{w0 w:World}{x z:BlkE}{L:List BlkE}{rs:List RowE}{J:World→Prop}(M:Own X w0 w (x::z::L) rs J):Own X w0 w (z::x::L) rs J:=by
 have hp:(exO (x::z::L) rs).Perm (exO (z::x::L) rs):=by
  unfold exO
  simp only [List.map_cons,List.cons_append]
  exact List.Perm.swap _ _ _
 have hm:∀a,a∈z::x::L→a∈x::z::L:=fun a h=>(List.Perm.swap x z L).mem_iff.1 h
 exact⟨M.os,M.output,M.size,M.out,fun a h=>M.low a (hm a h),fun a h=>M.blk a (hm a h),M.row,hp.nodup_iff.1 M.nodup,fun y hy=>M.always y ⟨hy.1,fun b h1 h2=>hy.2 b h1 fun h=>h2 (hp.mem_iff.2 h)⟩⟩
section
variable  {S:List UInt8→Prop}{n:Nat}
theorem wt_len (l:List PathT):l.length≤(l.map (wtP (wtN n))).sum:=len_le_sum _ _ fun x _=>by unfold wtP;omega
end
theorem make_step {S:List UInt8→Prop}{c:CodeD}{W Wn:List (PathT×Value)}{z:PathT×Value}{r:List PathT}{p:PathT}(h1:Wn.map (·.1)=flW 200 (selsOf z.1.segs))(hd:(W.map (·.1)).drop c.ps.length=z.1::r)(h:makeL 200 (5000-c.ps.length) c ((W.map (·.1)).drop c.ps.length)=codeT p∧c.ps.length≤W.length∧szC c+(((W.map (·.1)).drop c.ps.length).map (wtP (wtN 200))).sum≤5000)(hwf:WfP S (WfN S 200) z.1) :
  makeL 200 (5000-(layP 200 W.length c z.1).ps.length) (layP 200 W.length c z.1) (((W++Wn).map (·.1)).drop (layP 200 W.length c z.1).ps.length)=codeT p∧(layP 200 W.length c z.1).ps.length≤(W++Wn).length∧szC (layP 200 W.length c z.1)+((((W++Wn).map (·.1)).drop (layP 200 W.length c z.1).ps.length).map (wtP (wtN 200))).sum≤5000:=by
 obtain⟨h2,h3,h4⟩:=h
 have h5:(layP 200 W.length c z.1).ps.length=c.ps.length+1:=by simp [layP]
 have hl:W.length=c.ps.length+1+r.length:=by
  have:=congrArg List.length hd
  simp at this;omega
 have h6:((W++Wn).map (·.1)).drop (c.ps.length+1)=r++flW 200 (selsOf z.1.segs):=by
  rw [List.map_append,h1,List.drop_append_of_le_length (by rw [List.length_map];omega),←List.drop_drop,hd];rfl
 have h7:=lay_size c z.1 W.length hwf
 have h8:1≤wtP (wtN 200) z.1:=by unfold wtP;omega
 have h9:c.ps.length≤szC c:=by unfold szC;omega
 rw [hd,List.map_cons,List.sum_cons] at h4
 rw [hd,show 5000-c.ps.length=(5000-(c.ps.length+1))+1 by omega,makeL,←hl] at h2
 rw [h5,h6]
 refine⟨h2,by rw [List.length_append];omega,?_⟩
 rw [List.map_append,List.sum_append]
 omega
end
/- Tokens of a text: numbers within bounds, as many as bytes at most; a query's shape (plain; no word of a dump). -/
section
theorem capI_bd2 {a:Int}(h:0≤a∧a≤9007199254740992){c:UInt8}(hc:48≤(c.toNat:Int)):0≤capI a c∧capI a c≤9007199254740992:=by
 unfold capI;omega
theorem numV_bd2 :∀ (l:List UInt8)(a:Int),0≤a∧a≤9007199254740992→(∀c∈l,isDig c=true)→0≤l.foldl capI a∧l.foldl capI a≤9007199254740992
 | [],_,h,_=>h
 | c::r,a,h,hd=>numV_bd2 r _ (capI_bd2 h (by
   have:=hd c (by simp)
   unfold isDig at this
   simp at this
   first|omega|(have h2:=this.1;exact_mod_cast (UInt8.le_iff_toNat_le.1 h2)))) fun x hx=>hd x (by simp [hx])
theorem dig_take :∀ (l:List UInt8),∀c∈l.take (digN l),isDig c=true
 | [],c,h=>by simp at h
 | x::r,c,h=>by
  rw [digN] at h
  split at h
  ·rw [List.take_succ_cons] at h
   rcases List.mem_cons.1 h with rfl|h
   ·assumption
   ·exact dig_take r c h
  ·simp at h
theorem numT_n {l:List UInt8}{v:Int}{n:Nat}(h:numT l=.ok (v,n)):okN v:=by
 unfold numT at h
 obtain⟨_,h2,h3,_⟩:=num_aux _ _ _ _ _ _ h
 subst h3
 cases hm:hd l 45
 ·rw [hm] at h2
  simp only [Bool.false_eq_true,if_false,List.drop_zero] at h2 ⊢
  have:=numV_bd2 (l.take (digN l)) 0 (by omega) (dig_take l)
  unfold okN numV at *
  omega
 ·rw [hm] at h2
  simp only [if_true] at h2 ⊢
  have:=numV_bd2 ((l.drop 1).take (digN (l.drop 1))) 0 (by omega) (dig_take _)
  unfold okN numV at *
  omega
theorem tokT_n {l:List UInt8}{k:Int}{t:List UInt8}{v:Int}{n:Nat}(h:tokT l=.ok (k,t,v,n)):okN v:=by
 have h0:okN 0:=by unfold okN;omega
 unfold tokT at h
 cases l with
 | nil=>cases h
 | cons c r =>
  simp only at h
  split at h
  ·cases ht:txtF (r.length+1) c r with
   | none=>rw [ht] at h;cases h
   | some tn =>
    rw [ht] at h
    simp only [Except.ok.injEq,Prod.mk.injEq] at h
    rw [←h.2.2.1];exact h0
  ·split at h
   ·cases hn:numT (c::r) with
    | error e=>rw [hn] at h;cases h
    | ok vn =>
     obtain⟨v',m⟩:=vn
     rw [hn] at h
     simp only [Except.ok.injEq,Prod.mk.injEq] at h
     rw [←h.2.2.1];exact numT_n hn
   ·split at h
    ·simp only [Except.ok.injEq,Prod.mk.injEq] at h
     rw [←h.2.2.1];exact h0
    ·cases hs:signsL.find? (fun x=>(c::r).take x.length==x) with
     | none=>rw [hs] at h;cases h
     | some x =>
      rw [hs] at h
      simp only [Except.ok.injEq,Prod.mk.injEq] at h
      rw [←h.2.2.1];exact h0
theorem lexF_tk :∀ (f a:Nat)(u:List UInt8)(r:List TokD),lexF f a u=.ok r→(∀x∈r,okN x.n)∧r.length≤u.length
 | 0,a,u,r,h=>by
  rw [lexF] at h
  cases h
  exact⟨fun x hx=>by simp at hx,Nat.zero_le _⟩
 | f+1,a,u,r,h=>by
  rw [lexF] at h
  split at h
  ·cases h;exact⟨fun x hx=>by simp at hx,Nat.zero_le _⟩
  ·split at h
   ·cases h
   ·cases ht:tokT (u.drop (bkN u)) with
    | error e=>rw [ht] at h;cases h
    | ok q =>
     obtain⟨k,t,v,n⟩:=q
     rw [ht] at h
     simp only at h
     have h1:=tokT_ok _ _ _ _ _ ht
     unfold tokOK at h1
     cases hl:lexF f (a+bkN u+n) ((u.drop (bkN u)).drop n) with
     | error e=>rw [hl] at h;cases h
     | ok r2 =>
      rw [hl] at h
      simp only [Except.ok.injEq] at h
      obtain⟨h2,h3⟩:=lexF_tk f _ _ r2 hl
      subst h
      refine⟨fun x hx=>?_,?_⟩
      ·rcases List.mem_cons.1 hx with rfl|hx
       ·exact tokT_n ht
       ·exact h2 x hx
      ·have h4:=h1.1
       have h5:=h1.2.1
       rw [List.length_drop,List.length_drop] at h3
       rw [List.length_drop] at h5
       rw [List.length_cons];omega
theorem stOf_tk (l:List UInt8):(∀x∈(stOf l).toks,okN x.n)∧(stOf l).toks.length≤l.length:=by
 unfold stOf
 cases h:lexL l with
 | error e=>exact⟨fun x hx=>by simp at hx,Nat.zero_le _⟩
 | ok r =>
  simp only
  unfold lexL at h
  split at h
  ·cases h
  ·cases hf:lexF (l.length+1) 0 l with
   | error e=>rw [hf] at h;cases h
   | ok r2 =>
    rw [hf] at h
    cases r2 with
    | nil=>cases h
    | cons x r3 =>
     simp only [Except.ok.injEq] at h
     subst h
     exact lexF_tk _ _ _ _ hf
theorem parse_wf {m:Bool}{l:List UInt8}{p:PathT}(h:parseT m l=.ok p):WfP (fun _=>True) (WfN (fun _=>True) 200) p∧wtP (wtN 200) p≤4*l.length∧p.abs=true:=by
 obtain⟨h1,h2⟩:=stOf_tk l
 have:=parse2_g (S:=fun _=>True) (t:=stOf l) (fun x hx=>⟨h1 x hx,fun _=>trivial⟩) h
 exact⟨this.1,by omega,this.2.2⟩
theorem err_ne {m:Bool}{l:List UInt8}{x a:Int}(h:parseT m l=.error (x,a)):x≠0:=by
 unfold parseT parse2 at h
 generalize (if ovS (parse1 m (l.length:Nat) (stOf l)).2 then (parse1 m (l.length:Nat) (stOf l)).2 else formS (l.length:Nat) (parse1 m (l.length:Nat) (stOf l)).2)=X at h
 by_cases hc:X.fe=0
 ·rw [if_pos hc] at h;cases h
 ·rw [if_neg hc] at h
  simp only [Except.error.injEq,Prod.mk.injEq] at h
  rw [←h.1];exact hc
end
/- ref17: number in one contract; sel, where it is an index (printed by gen_rnum.py). -/
section
open Go.RowKit
set_option maxRecDepth 100000
set_option maxHeartbeats 2000000
section
variable  (A:Option Addr)(all:List TokD)(c k:Nat)(E:Int)(P:Nat→PSt→ExprT×PSt)(t:PSt)(d:Nat)(dp:Int)(w:World)
def RNumP (A:Option Addr)(all:List TokD)(c:Nat)(E:Int)(dp:Int)(w:World)(r:Int×Bool×PSt)(e:Ending)(w':World):Prop :=
 ∃k',e=.returned (.tuple #[rv A all.length c k' E r.2.2 dp,.int .i64 r.1,.bool r.2.1])∧RIn all k' r.2.2∧Bel w.heap.size w w'
theorem rnumber_any (h:RIn all k t)(hT:TkR w A all):Calls Tryz.prog 114 #[rv A all.length c k E t dp] w (RNumP A all c E dp w (numS E t)):=by
 by_cases hk:kindS t=3
 ·have e:numS E t=((hdT t).n,true,nextS E t):=by unfold numS;rw [if_pos hk]
  rw [e]
  exact rnumber_yes A all c k E t dp w h hT hk
 ·have e:numS E t=(0,false,t):=by unfold numS;rw [if_neg hk]
  rw [e]
  refine(rnumber_no A all c k E t dp w h hT hk).mono ?_
  rintro e w' ⟨rfl,hb⟩
  exact⟨k,rfl,h,hb⟩
theorem rsel_index_a (h:RIn all k t)(hT:TkR w A all)(hd:t.fe=0→dp=(d:Int))(k4:kindS t≠4)(h42:isS [42] t=false)(h63:isS [63] t=false)(k3:kindS t=3)(n1:Int)(ok:Bool)(t1:PSt)(h1:numS E t=(n1,ok,t1))(hs:isS [58] t1=false):Calls Tryz.prog 91 #[rv A all.length c k E t dp] w (RSelP A all c E d w (selF E P d t)):=by
 have HB0:=hH ((((Bel.refl w.heap.size w).alloc (Nat.le_refl _) (.cells #[.slice A all.length c,.int .i64 (k:Int),.int .i64 E,.int .i64 t.fe,.int .i64 t.fa,.int .i64 dp] 64)).alloc (by simp) (.cells #[.slice none 0 0,.int .i64 0,.int .i64 0,.int .i64 0,.int .i64 0,.int .i64 0] 64)).alloc (by simp;omega) (.cells #[.int .i64 0,.string ⟨#[]⟩,.int .i64 0,.int .i64 0,.int .i64 0,.int .i64 0,.bool false,.bool false,.pointer none] 47))
 have HV0:=hH (((Blk.new w 64 #[.slice A all.length c,.int .i64 (k:Int),.int .i64 E,.int .i64 t.fe,.int .i64 t.fa,.int .i64 dp]).alloc (.cells #[.slice none 0 0,.int .i64 0,.int .i64 0,.int .i64 0,.int .i64 0,.int .i64 0] 64)).alloc (.cells #[.int .i64 0,.string ⟨#[]⟩,.int .i64 0,.int .i64 0,.int .i64 0,.int .i64 0,.bool false,.bool false,.pointer none] 47))
 have HZ0:=hH ((Blk.new1 w (.cells #[.slice A all.length c,.int .i64 (k:Int),.int .i64 E,.int .i64 t.fe,.int .i64 t.fa,.int .i64 dp] 64) 64 #[.slice none 0 0,.int .i64 0,.int .i64 0,.int .i64 0,.int .i64 0,.int .i64 0]).alloc (.cells #[.int .i64 0,.string ⟨#[]⟩,.int .i64 0,.int .i64 0,.int .i64 0,.int .i64 0,.bool false,.bool false,.pointer none] 47))
 have HS0:=hH (Blk.new2 w (.cells #[.slice A all.length c,.int .i64 (k:Int),.int .i64 E,.int .i64 t.fe,.int .i64 t.fa,.int .i64 dp] 64) (.cells #[.slice none 0 0,.int .i64 0,.int .i64 0,.int .i64 0,.int .i64 0,.int .i64 0] 64) 47 #[.int .i64 0,.string ⟨#[]⟩,.int .i64 0,.int .i64 0,.int .i64 0,.int .i64 0,.bool false,.bool false,.pointer none])
 obtain⟨q,hq⟩:∃q,kindS t=q:=⟨_,rfl⟩
 have hq4:(q==4)=false:=by rw [beq_eq_false_iff_ne,←hq];exact k4
 have hq3:(q != 3)=false:=by rw [←hq,k3];rfl
 have HK:=hH (fun W (hb:Bel w.heap.size w W)=>rkind_at A all c k E t dp W q h (hT.bel hb) (hH hq))
 have HI:=hH (fun W (hb:Bel w.heap.size w W)=>ris_at A all c k E t dp W ⟨#[42]⟩ false h (hT.bel hb) (hH h42))
 have HJ:=hH (fun W (hb:Bel w.heap.size w W)=>ris_at A all c k E t dp W ⟨#[63]⟩ false h (hT.bel hb) (hH h63))
 have HN:=hH (fun W (hb:Bel w.heap.size w W)=>rnumber_any A all c k E t dp W h (hT.bel hb))
 have HD:=hH hd
 have HTT:=hH hT
 unfold RNumP at HN
 rw [h1] at HN
 have HE:=hH (show selF E P d t=(⟨2,[],n1,0,0,0,false,false,none⟩,t1) by unfold selF;rw [if_neg k4,ite_ff h42,ite_ff h63,decide_eq_true k3,Bool.true_or,if_pos rfl];unfold numbersS;rw [h1];simp only;rw [ite_ff hs])
 have HF1:=hH (show t1.fe=0→t.fe=0 from fun e=>Classical.byContradiction fun hf=>by rw [numS_bad hf] at h1;simp only [Prod.mk.injEq] at h1;rw [←h1.2.2] at e;exact hf e)
 have HSG:=hH hs
 clear h hT hq k4 h42 h63 k3 hd h1 hs
 go_enter Tryz.func91, Tryz.ntmps91
 generalize hQ:bodyPost Tryz.prog Tryz.f91 (RSelP A all c E d w (selF E P d t))=Q
 have HQ:=hH hQ;clear hQ
 go_wp2_with (first|(go_at_call 41;(with_reducible refine(HK.out _ HB3.out).mono ?_);rintro e w4 ⟨rfl,hb⟩;have HB4:=hH (HB3.out.next hb);have HV4:=hH (HV3.out.bel hb HV3.out.lt);have HZ4:=hH (HZ3.out.bel hb HZ3.out.lt);have HS4:=hH (HS3.out.bel hb HS3.out.lt);clear hb;clear qz q0 q1 q2 q3 q4 q5 qf0 qf1 qf2 qf3 qf4 qf5;clear zz z0 z1 z2 z3 z4 z5 zf0 zf1 zf2 zf3 zf4 zf5;clear sz s0 s1 s2 s3 s4 s5 s6 s7 s8 sf0 sf1 sf2 sf3 sf4 sf5 sf6 sf7 sf8;obtain⟨qz,⟨q0,q1,q2,q3,q4,q5⟩,⟨qf0,qf1,qf2,qf3,qf4,qf5⟩⟩:=HV4.out.c6;obtain⟨zz,⟨z0,z1,z2,z3,z4,z5⟩,⟨zf0,zf1,zf2,zf3,zf4,zf5⟩⟩:=HZ4.out.c6;obtain⟨sz,⟨s0,s1,s2,s3,s4,s5,s6,s7,s8⟩,⟨sf0,sf1,sf2,sf3,sf4,sf5,sf6,sf7,sf8⟩⟩:=HS4.out.c9)|(go_at_call 41;(with_reducible refine(HK.out _ HB0.out).mono ?_);rintro e w1 ⟨rfl,hb⟩;have HB1:=hH (HB0.out.next hb);have HV1:=hH (HV0.out.bel hb HV0.out.lt);have HZ1:=hH (HZ0.out.bel hb HZ0.out.lt);have HS1:=hH (HS0.out.bel hb HS0.out.lt);clear hb;obtain⟨qz,⟨q0,q1,q2,q3,q4,q5⟩,⟨qf0,qf1,qf2,qf3,qf4,qf5⟩⟩:=HV1.out.c6;obtain⟨zz,⟨z0,z1,z2,z3,z4,z5⟩,⟨zf0,zf1,zf2,zf3,zf4,zf5⟩⟩:=HZ1.out.c6;obtain⟨sz,⟨s0,s1,s2,s3,s4,s5,s6,s7,s8⟩,⟨sf0,sf1,sf2,sf3,sf4,sf5,sf6,sf7,sf8⟩⟩:=HS1.out.c9)|(go_at_call 24;(with_reducible refine(HI.out _ HB1.out).mono ?_);rintro e w2 ⟨rfl,hb⟩;have HB2:=hH (HB1.out.next hb);have HV2:=hH (HV1.out.bel hb HV1.out.lt);have HZ2:=hH (HZ1.out.bel hb HZ1.out.lt);have HS2:=hH (HS1.out.bel hb HS1.out.lt);clear hb;clear qz q0 q1 q2 q3 q4 q5 qf0 qf1 qf2 qf3 qf4 qf5;clear zz z0 z1 z2 z3 z4 z5 zf0 zf1 zf2 zf3 zf4 zf5;clear sz s0 s1 s2 s3 s4 s5 s6 s7 s8 sf0 sf1 sf2 sf3 sf4 sf5 sf6 sf7 sf8;obtain⟨qz,⟨q0,q1,q2,q3,q4,q5⟩,⟨qf0,qf1,qf2,qf3,qf4,qf5⟩⟩:=HV2.out.c6;obtain⟨zz,⟨z0,z1,z2,z3,z4,z5⟩,⟨zf0,zf1,zf2,zf3,zf4,zf5⟩⟩:=HZ2.out.c6;obtain⟨sz,⟨s0,s1,s2,s3,s4,s5,s6,s7,s8⟩,⟨sf0,sf1,sf2,sf3,sf4,sf5,sf6,sf7,sf8⟩⟩:=HS2.out.c9)|(go_at_call 24;(with_reducible refine(HJ.out _ HB2.out).mono ?_);rintro e w3 ⟨rfl,hb⟩;have HB3:=hH (HB2.out.next hb);have HV3:=hH (HV2.out.bel hb HV2.out.lt);have HZ3:=hH (HZ2.out.bel hb HZ2.out.lt);have HS3:=hH (HS2.out.bel hb HS2.out.lt);clear hb;clear qz q0 q1 q2 q3 q4 q5 qf0 qf1 qf2 qf3 qf4 qf5;clear zz z0 z1 z2 z3 z4 z5 zf0 zf1 zf2 zf3 zf4 zf5;clear sz s0 s1 s2 s3 s4 s5 s6 s7 s8 sf0 sf1 sf2 sf3 sf4 sf5 sf6 sf7 sf8;obtain⟨qz,⟨q0,q1,q2,q3,q4,q5⟩,⟨qf0,qf1,qf2,qf3,qf4,qf5⟩⟩:=HV3.out.c6;obtain⟨zz,⟨z0,z1,z2,z3,z4,z5⟩,⟨zf0,zf1,zf2,zf3,zf4,zf5⟩⟩:=HZ3.out.c6;obtain⟨sz,⟨s0,s1,s2,s3,s4,s5,s6,s7,s8⟩,⟨sf0,sf1,sf2,sf3,sf4,sf5,sf6,sf7,sf8⟩⟩:=HS3.out.c9)|(go_at_call 114;(with_reducible refine(HN.out _ HB4.out).mono ?_);rintro e w5 ⟨k1,rfl,hi2,hb⟩;have HI2:=hH hi2;have HB5':=hH (HB4.out.next hb);have HB5:=hH (HB5'.out.next (bel_lit (o:=.cells #[.slice A all.length c,.int .i64 (k1:Int),.int .i64 E,.int .i64 t1.fe,.int .i64 t1.fa,.int .i64 dp] 64)));have HV5:=hH ((HV4.out.bel hb HV4.out.lt).alloc (.cells #[.slice A all.length c,.int .i64 (k1:Int),.int .i64 E,.int .i64 t1.fe,.int .i64 t1.fa,.int .i64 dp] 64));have HZ5:=hH ((HZ4.out.bel hb HZ4.out.lt).alloc (.cells #[.slice A all.length c,.int .i64 (k1:Int),.int .i64 E,.int .i64 t1.fe,.int .i64 t1.fa,.int .i64 dp] 64));have HS5:=hH ((HS4.out.bel hb HS4.out.lt).alloc (.cells #[.slice A all.length c,.int .i64 (k1:Int),.int .i64 E,.int .i64 t1.fe,.int .i64 t1.fa,.int .i64 dp] 64));have HM2:=hH (ris_at A all c k1 E t1 dp _ ⟨#[58]⟩ false hi2 (HTT.out.bel HB5.out) HSG);have HW5:=hH (Blk.new w5 64 #[.slice A all.length c,.int .i64 (k1:Int),.int .i64 E,.int .i64 t1.fe,.int .i64 t1.fa,.int .i64 dp]);clear hi2 hb;clear qz q0 q1 q2 q3 q4 q5 qf0 qf1 qf2 qf3 qf4 qf5;clear zz z0 z1 z2 z3 z4 z5 zf0 zf1 zf2 zf3 zf4 zf5;clear sz s0 s1 s2 s3 s4 s5 s6 s7 s8 sf0 sf1 sf2 sf3 sf4 sf5 sf6 sf7 sf8)|(go_at_call 24;(with_reducible refine HM2.out.mono ?_);rintro e w6 ⟨rfl,hb⟩;have HB6:=hH (HB5.out.next hb);have HV6:=hH (HV5.out.bel hb HV5.out.lt);have HZ6:=hH (HZ5.out.bel hb HZ5.out.lt);have HS6:=hH (HS5.out.bel hb HS5.out.lt);have HW6:=hH (HW5.out.bel hb HW5.out.lt);clear hb;obtain⟨qz,⟨q0,q1,q2,q3,q4,q5⟩,⟨qf0,qf1,qf2,qf3,qf4,qf5⟩⟩:=HV6.out.c6;obtain⟨zz,⟨z0,z1,z2,z3,z4,z5⟩,⟨zf0,zf1,zf2,zf3,zf4,zf5⟩⟩:=HZ6.out.c6;obtain⟨sz,⟨s0,s1,s2,s3,s4,s5,s6,s7,s8⟩,⟨sf0,sf1,sf2,sf3,sf4,sf5,sf6,sf7,sf8⟩⟩:=HS6.out.c9;obtain⟨gz,⟨g0,g1,g2,g3,g4,g5⟩,⟨gf0,gf1,gf2,gf3,gf4,gf5⟩⟩:=HW6.out.c6))
 rw [←HQ.out]
 exact bodyPost_ret (v:=.tuple #[rv A all.length c k1 E t1 dp,selV ⟨2,[],n1,0,0,0,false,false,none⟩ (.pointer none)]) (by simp [results,Tryz.results91,go_sem,selV,bs,z0,z1,z2,z3,z4,z5,s0,s1,s2,s3,s4,s5,s6,s7,s8]) rfl (RSelP.plain HE.out rfl HI2.out (fun e=>HD.out (HF1.out e)) ((HB6.out.far6 (k:=w.heap.size+1) (Nat.le_succ _)).far9b (k:=w.heap.size+2) (by omega)))
theorem rsel_index_b (h:RIn all k t)(hT:TkR w A all)(hd:t.fe=0→dp=(d:Int))(k4:kindS t≠4)(h42:isS [42] t=false)(h63:isS [63] t=false)(k3:kindS t≠3)(h58:isS [58] t=true)(n1:Int)(ok:Bool)(t1:PSt)(h1:numS E t=(n1,ok,t1))(hs:isS [58] t1=false):Calls Tryz.prog 91 #[rv A all.length c k E t dp] w (RSelP A all c E d w (selF E P d t)):=by
 have HB0:=hH ((((Bel.refl w.heap.size w).alloc (Nat.le_refl _) (.cells #[.slice A all.length c,.int .i64 (k:Int),.int .i64 E,.int .i64 t.fe,.int .i64 t.fa,.int .i64 dp] 64)).alloc (by simp) (.cells #[.slice none 0 0,.int .i64 0,.int .i64 0,.int .i64 0,.int .i64 0,.int .i64 0] 64)).alloc (by simp;omega) (.cells #[.int .i64 0,.string ⟨#[]⟩,.int .i64 0,.int .i64 0,.int .i64 0,.int .i64 0,.bool false,.bool false,.pointer none] 47))
 have HV0:=hH (((Blk.new w 64 #[.slice A all.length c,.int .i64 (k:Int),.int .i64 E,.int .i64 t.fe,.int .i64 t.fa,.int .i64 dp]).alloc (.cells #[.slice none 0 0,.int .i64 0,.int .i64 0,.int .i64 0,.int .i64 0,.int .i64 0] 64)).alloc (.cells #[.int .i64 0,.string ⟨#[]⟩,.int .i64 0,.int .i64 0,.int .i64 0,.int .i64 0,.bool false,.bool false,.pointer none] 47))
 have HZ0:=hH ((Blk.new1 w (.cells #[.slice A all.length c,.int .i64 (k:Int),.int .i64 E,.int .i64 t.fe,.int .i64 t.fa,.int .i64 dp] 64) 64 #[.slice none 0 0,.int .i64 0,.int .i64 0,.int .i64 0,.int .i64 0,.int .i64 0]).alloc (.cells #[.int .i64 0,.string ⟨#[]⟩,.int .i64 0,.int .i64 0,.int .i64 0,.int .i64 0,.bool false,.bool false,.pointer none] 47))
 have HS0:=hH (Blk.new2 w (.cells #[.slice A all.length c,.int .i64 (k:Int),.int .i64 E,.int .i64 t.fe,.int .i64 t.fa,.int .i64 dp] 64) (.cells #[.slice none 0 0,.int .i64 0,.int .i64 0,.int .i64 0,.int .i64 0,.int .i64 0] 64) 47 #[.int .i64 0,.string ⟨#[]⟩,.int .i64 0,.int .i64 0,.int .i64 0,.int .i64 0,.bool false,.bool false,.pointer none])
 obtain⟨q,hq⟩:∃q,kindS t=q:=⟨_,rfl⟩
 have hq4:(q==4)=false:=by rw [beq_eq_false_iff_ne,←hq];exact k4
 have hq3:(q != 3)=true:=by rw [bne_iff_ne,←hq];exact k3
 have HK:=hH (fun W (hb:Bel w.heap.size w W)=>rkind_at A all c k E t dp W q h (hT.bel hb) (hH hq))
 have HI:=hH (fun W (hb:Bel w.heap.size w W)=>ris_at A all c k E t dp W ⟨#[42]⟩ false h (hT.bel hb) (hH h42))
 have HJ:=hH (fun W (hb:Bel w.heap.size w W)=>ris_at A all c k E t dp W ⟨#[63]⟩ false h (hT.bel hb) (hH h63))
 have HM:=hH (fun W (hb:Bel w.heap.size w W)=>ris_at A all c k E t dp W ⟨#[58]⟩ true h (hT.bel hb) (hH h58))
 have HN:=hH (fun W (hb:Bel w.heap.size w W)=>rnumber_any A all c k E t dp W h (hT.bel hb))
 have HD:=hH hd
 have HTT:=hH hT
 unfold RNumP at HN
 rw [h1] at HN
 have HE:=hH (show selF E P d t=(⟨2,[],n1,0,0,0,false,false,none⟩,t1) by unfold selF;rw [if_neg k4,ite_ff h42,ite_ff h63,h58,Bool.or_true,if_pos rfl];unfold numbersS;rw [h1];simp only;rw [ite_ff hs])
 have HF1:=hH (show t1.fe=0→t.fe=0 from fun e=>Classical.byContradiction fun hf=>by rw [numS_bad hf] at h1;simp only [Prod.mk.injEq] at h1;rw [←h1.2.2] at e;exact hf e)
 have HSG:=hH hs
 clear h hT hq k4 h42 h63 k3 hd h1 hs h58
 go_enter Tryz.func91, Tryz.ntmps91
 generalize hQ:bodyPost Tryz.prog Tryz.f91 (RSelP A all c E d w (selF E P d t))=Q
 have HQ:=hH hQ;clear hQ
 go_wp2_with (first|(go_at_call 41;(with_reducible refine(HK.out _ HB3.out).mono ?_);rintro e w4 ⟨rfl,hb⟩;have HB4:=hH (HB3.out.next hb);have HV4:=hH (HV3.out.bel hb HV3.out.lt);have HZ4:=hH (HZ3.out.bel hb HZ3.out.lt);have HS4:=hH (HS3.out.bel hb HS3.out.lt);clear hb;clear qz q0 q1 q2 q3 q4 q5 qf0 qf1 qf2 qf3 qf4 qf5;clear zz z0 z1 z2 z3 z4 z5 zf0 zf1 zf2 zf3 zf4 zf5;clear sz s0 s1 s2 s3 s4 s5 s6 s7 s8 sf0 sf1 sf2 sf3 sf4 sf5 sf6 sf7 sf8;obtain⟨qz,⟨q0,q1,q2,q3,q4,q5⟩,⟨qf0,qf1,qf2,qf3,qf4,qf5⟩⟩:=HV4.out.c6;obtain⟨zz,⟨z0,z1,z2,z3,z4,z5⟩,⟨zf0,zf1,zf2,zf3,zf4,zf5⟩⟩:=HZ4.out.c6;obtain⟨sz,⟨s0,s1,s2,s3,s4,s5,s6,s7,s8⟩,⟨sf0,sf1,sf2,sf3,sf4,sf5,sf6,sf7,sf8⟩⟩:=HS4.out.c9)|(go_at_call 41;(with_reducible refine(HK.out _ HB0.out).mono ?_);rintro e w1 ⟨rfl,hb⟩;have HB1:=hH (HB0.out.next hb);have HV1:=hH (HV0.out.bel hb HV0.out.lt);have HZ1:=hH (HZ0.out.bel hb HZ0.out.lt);have HS1:=hH (HS0.out.bel hb HS0.out.lt);clear hb;obtain⟨qz,⟨q0,q1,q2,q3,q4,q5⟩,⟨qf0,qf1,qf2,qf3,qf4,qf5⟩⟩:=HV1.out.c6;obtain⟨zz,⟨z0,z1,z2,z3,z4,z5⟩,⟨zf0,zf1,zf2,zf3,zf4,zf5⟩⟩:=HZ1.out.c6;obtain⟨sz,⟨s0,s1,s2,s3,s4,s5,s6,s7,s8⟩,⟨sf0,sf1,sf2,sf3,sf4,sf5,sf6,sf7,sf8⟩⟩:=HS1.out.c9)|(go_at_call 24;(with_reducible refine(HI.out _ HB1.out).mono ?_);rintro e w2 ⟨rfl,hb⟩;have HB2:=hH (HB1.out.next hb);have HV2:=hH (HV1.out.bel hb HV1.out.lt);have HZ2:=hH (HZ1.out.bel hb HZ1.out.lt);have HS2:=hH (HS1.out.bel hb HS1.out.lt);clear hb;clear qz q0 q1 q2 q3 q4 q5 qf0 qf1 qf2 qf3 qf4 qf5;clear zz z0 z1 z2 z3 z4 z5 zf0 zf1 zf2 zf3 zf4 zf5;clear sz s0 s1 s2 s3 s4 s5 s6 s7 s8 sf0 sf1 sf2 sf3 sf4 sf5 sf6 sf7 sf8;obtain⟨qz,⟨q0,q1,q2,q3,q4,q5⟩,⟨qf0,qf1,qf2,qf3,qf4,qf5⟩⟩:=HV2.out.c6;obtain⟨zz,⟨z0,z1,z2,z3,z4,z5⟩,⟨zf0,zf1,zf2,zf3,zf4,zf5⟩⟩:=HZ2.out.c6;obtain⟨sz,⟨s0,s1,s2,s3,s4,s5,s6,s7,s8⟩,⟨sf0,sf1,sf2,sf3,sf4,sf5,sf6,sf7,sf8⟩⟩:=HS2.out.c9)|(go_at_call 24;(with_reducible refine(HJ.out _ HB2.out).mono ?_);rintro e w3 ⟨rfl,hb⟩;have HB3:=hH (HB2.out.next hb);have HV3:=hH (HV2.out.bel hb HV2.out.lt);have HZ3:=hH (HZ2.out.bel hb HZ2.out.lt);have HS3:=hH (HS2.out.bel hb HS2.out.lt);clear hb;clear qz q0 q1 q2 q3 q4 q5 qf0 qf1 qf2 qf3 qf4 qf5;clear zz z0 z1 z2 z3 z4 z5 zf0 zf1 zf2 zf3 zf4 zf5;clear sz s0 s1 s2 s3 s4 s5 s6 s7 s8 sf0 sf1 sf2 sf3 sf4 sf5 sf6 sf7 sf8;obtain⟨qz,⟨q0,q1,q2,q3,q4,q5⟩,⟨qf0,qf1,qf2,qf3,qf4,qf5⟩⟩:=HV3.out.c6;obtain⟨zz,⟨z0,z1,z2,z3,z4,z5⟩,⟨zf0,zf1,zf2,zf3,zf4,zf5⟩⟩:=HZ3.out.c6;obtain⟨sz,⟨s0,s1,s2,s3,s4,s5,s6,s7,s8⟩,⟨sf0,sf1,sf2,sf3,sf4,sf5,sf6,sf7,sf8⟩⟩:=HS3.out.c9)|(go_at_call 24;(with_reducible refine(HM.out _ HB4.out).mono ?_);rintro e w5 ⟨rfl,hb⟩;have HB5:=hH (HB4.out.next hb);have HV5:=hH (HV4.out.bel hb HV4.out.lt);have HZ5:=hH (HZ4.out.bel hb HZ4.out.lt);have HS5:=hH (HS4.out.bel hb HS4.out.lt);clear hb;clear qz q0 q1 q2 q3 q4 q5 qf0 qf1 qf2 qf3 qf4 qf5;clear zz z0 z1 z2 z3 z4 z5 zf0 zf1 zf2 zf3 zf4 zf5;clear sz s0 s1 s2 s3 s4 s5 s6 s7 s8 sf0 sf1 sf2 sf3 sf4 sf5 sf6 sf7 sf8;obtain⟨qz,⟨q0,q1,q2,q3,q4,q5⟩,⟨qf0,qf1,qf2,qf3,qf4,qf5⟩⟩:=HV5.out.c6;obtain⟨zz,⟨z0,z1,z2,z3,z4,z5⟩,⟨zf0,zf1,zf2,zf3,zf4,zf5⟩⟩:=HZ5.out.c6;obtain⟨sz,⟨s0,s1,s2,s3,s4,s5,s6,s7,s8⟩,⟨sf0,sf1,sf2,sf3,sf4,sf5,sf6,sf7,sf8⟩⟩:=HS5.out.c9)|(go_at_call 114;(with_reducible refine(HN.out _ HB5.out).mono ?_);rintro e w6 ⟨k1,rfl,hi2,hb⟩;have HI2:=hH hi2;have HB6':=hH (HB5.out.next hb);have HB6:=hH (HB6'.out.next (bel_lit (o:=.cells #[.slice A all.length c,.int .i64 (k1:Int),.int .i64 E,.int .i64 t1.fe,.int .i64 t1.fa,.int .i64 dp] 64)));have HV6:=hH ((HV5.out.bel hb HV5.out.lt).alloc (.cells #[.slice A all.length c,.int .i64 (k1:Int),.int .i64 E,.int .i64 t1.fe,.int .i64 t1.fa,.int .i64 dp] 64));have HZ6:=hH ((HZ5.out.bel hb HZ5.out.lt).alloc (.cells #[.slice A all.length c,.int .i64 (k1:Int),.int .i64 E,.int .i64 t1.fe,.int .i64 t1.fa,.int .i64 dp] 64));have HS6:=hH ((HS5.out.bel hb HS5.out.lt).alloc (.cells #[.slice A all.length c,.int .i64 (k1:Int),.int .i64 E,.int .i64 t1.fe,.int .i64 t1.fa,.int .i64 dp] 64));have HM2:=hH (ris_at A all c k1 E t1 dp _ ⟨#[58]⟩ false hi2 (HTT.out.bel HB6.out) HSG);have HW6:=hH (Blk.new w6 64 #[.slice A all.length c,.int .i64 (k1:Int),.int .i64 E,.int .i64 t1.fe,.int .i64 t1.fa,.int .i64 dp]);clear hi2 hb;clear qz q0 q1 q2 q3 q4 q5 qf0 qf1 qf2 qf3 qf4 qf5;clear zz z0 z1 z2 z3 z4 z5 zf0 zf1 zf2 zf3 zf4 zf5;clear sz s0 s1 s2 s3 s4 s5 s6 s7 s8 sf0 sf1 sf2 sf3 sf4 sf5 sf6 sf7 sf8)|(go_at_call 24;(with_reducible refine HM2.out.mono ?_);rintro e w7 ⟨rfl,hb⟩;have HB7:=hH (HB6.out.next hb);have HV7:=hH (HV6.out.bel hb HV6.out.lt);have HZ7:=hH (HZ6.out.bel hb HZ6.out.lt);have HS7:=hH (HS6.out.bel hb HS6.out.lt);have HW7:=hH (HW6.out.bel hb HW6.out.lt);clear hb;obtain⟨qz,⟨q0,q1,q2,q3,q4,q5⟩,⟨qf0,qf1,qf2,qf3,qf4,qf5⟩⟩:=HV7.out.c6;obtain⟨zz,⟨z0,z1,z2,z3,z4,z5⟩,⟨zf0,zf1,zf2,zf3,zf4,zf5⟩⟩:=HZ7.out.c6;obtain⟨sz,⟨s0,s1,s2,s3,s4,s5,s6,s7,s8⟩,⟨sf0,sf1,sf2,sf3,sf4,sf5,sf6,sf7,sf8⟩⟩:=HS7.out.c9;obtain⟨gz,⟨g0,g1,g2,g3,g4,g5⟩,⟨gf0,gf1,gf2,gf3,gf4,gf5⟩⟩:=HW7.out.c6))
 rw [←HQ.out]
 exact bodyPost_ret (v:=.tuple #[rv A all.length c k1 E t1 dp,selV ⟨2,[],n1,0,0,0,false,false,none⟩ (.pointer none)]) (by simp [results,Tryz.results91,go_sem,selV,bs,z0,z1,z2,z3,z4,z5,s0,s1,s2,s3,s4,s5,s6,s7,s8]) rfl (RSelP.plain HE.out rfl HI2.out (fun e=>HD.out (HF1.out e)) ((HB7.out.far6 (k:=w.heap.size+1) (Nat.le_succ _)).far9b (k:=w.heap.size+2) (by omega)))
end
end

end Go.Proofs.YtpcbcodmocmilaaGreatDoor

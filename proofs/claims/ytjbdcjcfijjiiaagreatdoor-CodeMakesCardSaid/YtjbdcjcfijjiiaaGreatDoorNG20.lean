/- NG20: Zd, Ze joined. -/
import Derived.Test.YtjbdcjcfijjiiaaGreatDoorNZc
namespace Go.Proofs.YtjbdcjcfijjiiaaGreatDoor
open Go.RowKit
/- code: expr, of whatever tree (printed by gen_zd.py). -/
section
open Go.RowKit
set_option maxRecDepth 100000
set_option maxHeartbeats 2000000
section
variable  {w0:World}{L:List BlkE}{rs:List RowE}{J:World→Prop}
theorem l_ld1b {P:Program}{w:World}{ops:Array Oper}{rest:List Oper}{a:Act}{Q:Exit→Act→World→Prop}{dst:Option Tmp}{tt:TypeId}{pos:String}{af:Array Edge}{T:TypeId}(F:OneF P T){x:Operand}{g j:Nat}{T':TypeId}{cs:Array Value}{v:Value}(hx:a.eval x=.pointer (some ⟨g,j,none⟩))(hb:Blk w g T' cs)(hv:cs[j]? = some v)
  (h:wpList P ops Q rest (a.put dst v) w):wpList P ops Q (⟨dst,.load T x,tt,pos,af,none⟩::rest) a w :=
 wpList_plain rfl fun _ hK=>o_ld1 F hx ((hb.cell j).trans hv) (hK _ _ h)
theorem mexpr_or (g:Nat)(c:CodeD)(W:List (PathT×Value))(w:World)(h:MkS w0 w g L rs J c W)(op lk ln rk rn:Int)(ll rl:Bool)(ls rs_:ByteArray)(pl pr:PathT)(lA rA:Option Addr)(lm lc rm rc:Nat)(q1:Option Addr)(q0:Bool)(q2 q3 n b off cp:Nat)(D:List KidD)(hD:2≤D.length)(hK:KidsM w0 n b off D)(hl:c.is.length+lenK (lenN n) (ksD D)≤999990)(hlw:W.length+nWD D≤999990)(hD2:D.length≤999990):Calls Tryz.prog 32 #[.pointer (some ⟨g,0,none⟩),.agg #[.int .i64 0,.slice (some ⟨b,off,none⟩) D.length cp,.bool q0,.slice q1 q2 q3,.int .i64 op,.bool ll,.int .i64 lk,.int .i64 ln,.string ls,.bool pl.abs,.slice lA lm lc,.bool rl,.int .i64 rk,.int .i64 rn,.string rs_,.bool pr.abs,.slice rA rm rc]] w fun e w'=>e=.returned (.tuple #[])∧MkS w0 w' g L rs J ⟨c.ps,c.gs,c.ss,c.is++insO n 3 (c.is.length+lenK (lenN n) (ksD D)) c.is.length W.length (ksD D)⟩ (W++D.flatMap (·.W)):=by
 obtain⟨v1,v2,v3,v4,v5,hM⟩:=h
 have M:=hH hM
 clear hM
 go_enter Tryz.func32, Tryz.ntmps32
 go_upto_region 1 with(first|((with_reducible refine l_bx (d:=3) M.out ?_);clear M;intro g3 w' hg3 M;replace M:=hH M.out.freeze))
 replace M:=hH (MkS.own M.out)
 have HK:=hH hK
 have HL:=hH hl
 have HLW:=hH hlw
 clear hK hl hlw
 go_wp2_with (first|((with_reducible refine g_ld 3 ?_);refine l_ld1b O_int rfl (M.out.now.2) rfl ?_)|((with_reducible refine g_ld 88 ?_);refine l_ld1b O_sEx rfl (M.out.now.2) rfl ?_)|(go_at_call 47;(with_reducible refine(mmany_any g c W n b off cp D 3 hD HK.out _ M.out HL.out HLW.out hD2).mono ?_);rintro e w' ⟨rfl,hm⟩;replace M:=hH hm;clear hm))
 go_end0
 exact⟨rfl,M.out.imp fun y h=>h.1⟩
theorem mexpr_and (g:Nat)(c:CodeD)(W:List (PathT×Value))(w:World)(h:MkS w0 w g L rs J c W)(op lk ln rk rn:Int)(ll rl:Bool)(ls rs_:ByteArray)(pl pr:PathT)(lA rA:Option Addr)(lm lc rm rc:Nat)(q1:Option Addr)(q0:Bool)(q2 q3 n b off cp:Nat)(D:List KidD)(hD:2≤D.length)(hK:KidsM w0 n b off D)(hl:c.is.length+lenK (lenN n) (ksD D)≤999990)(hlw:W.length+nWD D≤999990)(hD2:D.length≤999990):Calls Tryz.prog 32 #[.pointer (some ⟨g,0,none⟩),.agg #[.int .i64 1,.slice (some ⟨b,off,none⟩) D.length cp,.bool q0,.slice q1 q2 q3,.int .i64 op,.bool ll,.int .i64 lk,.int .i64 ln,.string ls,.bool pl.abs,.slice lA lm lc,.bool rl,.int .i64 rk,.int .i64 rn,.string rs_,.bool pr.abs,.slice rA rm rc]] w fun e w'=>e=.returned (.tuple #[])∧MkS w0 w' g L rs J ⟨c.ps,c.gs,c.ss,c.is++insO n 4 (c.is.length+lenK (lenN n) (ksD D)) c.is.length W.length (ksD D)⟩ (W++D.flatMap (·.W)):=by
 obtain⟨v1,v2,v3,v4,v5,hM⟩:=h
 have M:=hH hM
 clear hM
 go_enter Tryz.func32, Tryz.ntmps32
 go_upto_region 1 with(first|((with_reducible refine l_bx (d:=3) M.out ?_);clear M;intro g3 w' hg3 M;replace M:=hH M.out.freeze))
 replace M:=hH (MkS.own M.out)
 have HK:=hH hK
 have HL:=hH hl
 have HLW:=hH hlw
 clear hK hl hlw
 go_wp2_with (first|((with_reducible refine g_ld 3 ?_);refine l_ld1b O_int rfl (M.out.now.2) rfl ?_)|((with_reducible refine g_ld 88 ?_);refine l_ld1b O_sEx rfl (M.out.now.2) rfl ?_)|(go_at_call 47;(with_reducible refine(mmany_any g c W n b off cp D 4 hD HK.out _ M.out HL.out HLW.out hD2).mono ?_);rintro e w' ⟨rfl,hm⟩;replace M:=hH hm;clear hm))
 go_end0
 exact⟨rfl,M.out.imp fun y h=>h.1⟩
theorem mexpr_test (g:Nat)(c:CodeD)(W:List (PathT×Value))(w:World)(h:MkS w0 w g L rs J c W)(op lk ln rk rn:Int)(ll rl:Bool)(ls rs_:ByteArray)(pl pr:PathT)(lA rA:Option Addr)(lm lc rm rc:Nat)(pq:PathT)(k0 q1:Option Addr)(k1 k2 q2 q3:Nat)(hl:c.is.length≤999999)(hlw:W.length≤999999):Calls Tryz.prog 32 #[.pointer (some ⟨g,0,none⟩),.agg #[.int .i64 3,.slice k0 k1 k2,.bool pq.abs,.slice q1 q2 q3,.int .i64 op,.bool ll,.int .i64 lk,.int .i64 ln,.string ls,.bool pl.abs,.slice lA lm lc,.bool rl,.int .i64 rk,.int .i64 rn,.string rs_,.bool pr.abs,.slice rA rm rc]] w fun e w'=>e=.returned (.tuple #[])∧MkS w0 w' g L rs J ⟨c.ps,c.gs,c.ss,c.is++[(⟨0,W.length,0,0,0,⟨#[]⟩,0⟩:InsD)]⟩ (W++[(pq,.slice q1 q2 q3)]):=by
 obtain⟨v1,v2,v3,v4,v5,hM⟩:=h
 have M:=hH hM
 clear hM
 go_enter Tryz.func32, Tryz.ntmps32
 go_upto_region 1 with(first|((with_reducible refine l_bx (d:=3) M.out ?_);clear M;intro g3 w' hg3 M;replace M:=hH M.out.freeze))
 replace M:=hH (MkS.own M.out)
 go_wp2_with (first|((with_reducible refine g_ld 3 ?_);refine l_ld1b O_int rfl (M.out.now.2) rfl ?_)|((with_reducible refine g_ld 37 ?_);refine l_ldf F_Path rfl (range_own (o:=2) (n:=2) M.out.now.2 (part:=[.bool pq.abs,.slice q1 q2 q3]) rfl) rfl ?_)|(go_at_call 48;(with_reducible refine(mnumber_any g c W pq q1 q2 q3 _ M.out hlw).mono ?_);rintro e w' ⟨rfl,hm⟩;replace M:=hH hm;clear hm)|(go_at_call 33;(with_reducible refine(mput_any g c (W++[(pq,.slice q1 q2 q3)]) ⟨0,W.length,0,0,0,⟨#[]⟩,0⟩ _ M.out hl).mono ?_);rintro e w' ⟨rfl,hm⟩;replace M:=hH hm;clear hm))
 go_end0
 exact⟨rfl,M.out.imp fun y h=>h.1⟩
theorem mexpr_not (g:Nat)(c:CodeD)(W:List (PathT×Value))(w:World)(h:MkS w0 w g L rs J c W)(op lk ln rk rn:Int)(ll rl:Bool)(ls rs_:ByteArray)(pl pr:PathT)(lA rA:Option Addr)(lm lc rm rc:Nat)(q1:Option Addr)(q0:Bool)(q2 q3 n b off cp:Nat)(d:KidD)(hb:b<w0.heap.size)(hkc:d.kc.length=17)(hra:w0.rangeAt b off d.kc)(hK:KidM w0 n d)(hln:(insN n c.is.length W.length d.x).length=lenN n d.x)(hl:c.is.length+lenN n d.x+1≤999990)(hlw:W.length+d.W.length≤999990):Calls Tryz.prog 32 #[.pointer (some ⟨g,0,none⟩),.agg #[.int .i64 2,.slice (some ⟨b,off,none⟩) 1 cp,.bool q0,.slice q1 q2 q3,.int .i64 op,.bool ll,.int .i64 lk,.int .i64 ln,.string ls,.bool pl.abs,.slice lA lm lc,.bool rl,.int .i64 rk,.int .i64 rn,.string rs_,.bool pr.abs,.slice rA rm rc]] w fun e w'=>e=.returned (.tuple #[])∧MkS w0 w' g L rs J ⟨c.ps,c.gs,c.ss,c.is++insN n c.is.length W.length d.x++[(⟨2,0,0,0,0,⟨#[]⟩,0⟩:InsD)]⟩ (W++d.W):=by
 obtain⟨v1,v2,v3,v4,v5,hM⟩:=h
 have M:=hH hM
 clear hM
 go_enter Tryz.func32, Tryz.ntmps32
 go_upto_region 1 with(first|((with_reducible refine l_bx (d:=3) M.out ?_);clear M;intro g3 w' hg3 M;replace M:=hH M.out.freeze))
 replace M:=hH (MkS.own M.out)
 unfold KidM at hK
 have HK:=hH hK
 have HRA:=hH hra
 have HKN:=hH hkc
 have HL:=hH (show (c.is++insN n c.is.length W.length d.x).length≤999999 from by rw [List.length_append,hln];omega)
 have HL2:=hH (show c.is.length+lenN n d.x≤999990 from by omega)
 have HLW:=hH hlw
 clear hK hra hkc hl hlw hln
 go_wp2_with (first|((with_reducible refine g_ld 3 ?_);refine l_ld1b O_int rfl (M.out.now.2) rfl ?_)|((with_reducible refine g_ld 88 ?_);refine l_ld1b O_sEx rfl (M.out.now.2) rfl ?_)|((with_reducible refine g_ld 92 ?_);refine l_ldf F_Ex rfl (fun j v hv=>(World.cell?_of_block (M.out.bel0.block b hb)).trans (HRA.out j v hv)) HKN.out ?_)|(go_at_call 32;(with_reducible refine(HK.out _ g L rs _ c W M.out HL2.out HLW.out).mono ?_);rintro e w' ⟨rfl,hm⟩;replace M:=hH hm;clear hm)|(go_at_call 33;(with_reducible refine(mput_any g _ _ ⟨2,0,0,0,0,⟨#[]⟩,0⟩ _ M.out HL.out).mono ?_);rintro e w' ⟨rfl,hm⟩;replace M:=hH hm;clear hm))
 go_end0
 exact⟨rfl,M.out.imp fun y h=>h.1⟩
theorem mexpr_cmpR (g:Nat)(c:CodeD)(W:List (PathT×Value))(w:World)(h:MkS w0 w g L rs J c W)(op lk ln rk rn:Int)(rl:Bool)(ls rs_:ByteArray)(pl pr:PathT)(lA rA:Option Addr)(lm lc rm rc:Nat)(k0 q1:Option Addr)(k1 k2 q2 q3:Nat)(q0:Bool)(hl:c.is.length≤999999)(hlw:W.length≤999999):Calls Tryz.prog 32 #[.pointer (some ⟨g,0,none⟩),.agg #[.int .i64 4,.slice k0 k1 k2,.bool q0,.slice q1 q2 q3,.int .i64 op,.bool false,.int .i64 lk,.int .i64 ln,.string ls,.bool pl.abs,.slice lA lm lc,.bool rl,.int .i64 rk,.int .i64 rn,.string rs_,.bool pr.abs,.slice rA rm rc]] w fun e w'=>e=.returned (.tuple #[])∧MkS w0 w' g L rs J ⟨c.ps,c.gs,c.ss,c.is++[(⟨1,W.length,op,rk,rn,rs_,0⟩:InsD)]⟩ (W++[(pl,.slice lA lm lc)]):=by
 obtain⟨v1,v2,v3,v4,v5,hM⟩:=h
 have M:=hH hM
 clear hM
 go_enter Tryz.func32, Tryz.ntmps32
 go_upto_region 1 with(first|((with_reducible refine l_bx (d:=3) M.out ?_);clear M;intro g3 w' hg3 M;replace M:=hH M.out.freeze))
 replace M:=hH (MkS.own M.out)
 go_wp2_with (first|((with_reducible refine g_ld 3 ?_);refine l_ld1b O_int rfl (M.out.now.2) rfl ?_)|((with_reducible refine g_ld 92 ?_);refine l_ldb F_Ex rfl M.out.now.2 rfl ?_)|(go_at_call 49;(with_reducible refine(mcmp_R g c W op k0 q1 lA rA k1 k2 q2 q3 lm lc rm rc q0 rl lk ln rk rn ls rs_ pl pr _ M.out hl hlw).mono ?_);rintro e w' ⟨rfl,hm⟩;replace M:=hH hm;clear hm))
 go_end0
 exact⟨rfl,M.out.imp fun y h=>h.1⟩
theorem mexpr_cmpL (g:Nat)(c:CodeD)(W:List (PathT×Value))(w:World)(h:MkS w0 w g L rs J c W)(lk ln rk rn:Int)(rl:Bool)(ls rs_:ByteArray)(pl pr:PathT)(lA rA:Option Addr)(lm lc rm rc:Nat)(k:Nat)(hk:k<6)(k0 q1:Option Addr)(k1 k2 q2 q3:Nat)(q0:Bool)(hl:c.is.length≤999999)(hlw:W.length≤999999):Calls Tryz.prog 32 #[.pointer (some ⟨g,0,none⟩),.agg #[.int .i64 4,.slice k0 k1 k2,.bool q0,.slice q1 q2 q3,.int .i64 (k:Int),.bool true,.int .i64 lk,.int .i64 ln,.string ls,.bool pl.abs,.slice lA lm lc,.bool rl,.int .i64 rk,.int .i64 rn,.string rs_,.bool pr.abs,.slice rA rm rc]] w fun e w'=>e=.returned (.tuple #[])∧MkS w0 w' g L rs J ⟨c.ps,c.gs,c.ss,c.is++[(⟨1,W.length,turnS k,lk,ln,ls,0⟩:InsD)]⟩ (W++[(pr,.slice rA rm rc)]):=by
 obtain⟨v1,v2,v3,v4,v5,hM⟩:=h
 have M:=hH hM
 clear hM
 go_enter Tryz.func32, Tryz.ntmps32
 go_upto_region 1 with(first|((with_reducible refine l_bx (d:=3) M.out ?_);clear M;intro g3 w' hg3 M;replace M:=hH M.out.freeze))
 replace M:=hH (MkS.own M.out)
 go_wp2_with (first|((with_reducible refine g_ld 3 ?_);refine l_ld1b O_int rfl (M.out.now.2) rfl ?_)|((with_reducible refine g_ld 92 ?_);refine l_ldb F_Ex rfl M.out.now.2 rfl ?_)|(go_at_call 49;(with_reducible refine(mcmp_L g c W k hk k0 q1 lA rA k1 k2 q2 q3 lm lc rm rc q0 rl lk ln rk rn ls rs_ pl pr _ M.out hl hlw).mono ?_);rintro e w' ⟨rfl,hm⟩;replace M:=hH hm;clear hm))
 go_end0
 exact⟨rfl,M.out.imp fun y h=>h.1⟩
end
def ExprM (w0:World)(n:Nat)(x:ExprT):Prop:=∀(m:Nat) (cs:List Value),ExR (Lw w0) m w0 cs x→∃W,W.map (·.1)=waitN n x∧(∀z∈W,TreeV w0 z)∧cs.length=17∧allOne cs=true∧KidM w0 n ⟨x,cs,W⟩
section
variable  {S:List UInt8→Prop}{w0:World}{n:Nat}
theorem kids_m (ih:∀x,WfN S n x→ExprM w0 n x){m:Nat}{v:Value}{l:List ExprT}(hl:∀k∈l,WfN S n k)(h0:l≠[])(h:RowG (Lw w0) 17 (ExR (Lw w0) m w0) w0 v l) :
  ∃(b off c:Nat) (D:List KidD),v=.slice (some ⟨b,off,none⟩) D.length c∧ksD D=l∧KidsM w0 n b off D∧(∀d∈D,d.W.map (·.1)=waitN n d.x∧∀z∈d.W,TreeV w0 z):=by
 obtain⟨A,cap,rfl,_,h3⟩:=h
 obtain⟨b,off,rfl,hb,_,hc⟩:=h3.resolve_left h0
 obtain⟨D,hD,hq⟩:=listOf (fun i (d:KidD)=>l[i]? = some d.x∧(∀(j:Nat) u,d.kc[j]? = some u→w0.cell? ⟨b,off+i*17+j,none⟩=some u)∧d.W.map (·.1)=waitN n d.x∧(∀z∈d.W,TreeV w0 z)∧d.kc.length=17∧allOne d.kc=true∧KidM w0 n d) l.length fun i hi=>by
  have hx:=List.getElem?_eq_getElem hi
  obtain⟨cs,h1,h2,h3⟩:=hc i _ hx
  obtain⟨W,w1,w2,w3,w4,w5⟩:=ih _ (hl _ (List.getElem_mem hi)) m cs h3
  exact⟨⟨_,cs,W⟩,hx,h2,w1,w2,w3,w4,w5⟩
 have hk:ksD D=l:=by
  refine List.ext_getElem? fun i=>?_
  unfold ksD
  rw [List.getElem?_map]
  by_cases hi:i<D.length
  ·rw [List.getElem?_eq_getElem hi]
   exact((hq i _ (List.getElem?_eq_getElem hi)).1).symm
  ·rw [List.getElem?_eq_none (by omega),List.getElem?_eq_none (by omega)];rfl
 have hmem:∀d∈D,∃i,D[i]? = some d:=fun d hd=>List.mem_iff_getElem?.1 hd
 refine⟨b,off,cap,D,by rw [hD],hk,⟨hb,fun i d hd=>⟨(hq i d hd).2.2.2.2.1,(hq i d hd).2.1,(hq i d hd).2.2.2.2.2.1⟩,fun d hd=>?_,fun d hd=>?_⟩,fun d hd=>?_⟩
 ·obtain⟨i,hi⟩:=hmem d hd;exact(hq i d hi).2.2.2.2.2.2
 ·obtain⟨i,hi⟩:=hmem d hd
  have hw:WfN S n d.x:=hl _ (List.mem_of_getElem? (hq i d hi).1)
  exact⟨fun a b=>insN_len n _ hw a b,lenN_pos n _ hw,by rw [←(hq i d hi).2.2.1,List.length_map]⟩
 ·obtain⟨i,hi⟩:=hmem d hd;exact⟨(hq i d hi).2.2.1,(hq i d hi).2.2.2.1⟩
end
theorem mexpr_all (S:List UInt8→Prop)(w0:World):∀(n:Nat) (x:ExprT),WfN S n x→ExprM w0 n x
 | 0,_,h=>h.elim
 | n+1,x,h=>fun m cs hx=>by
  have h':WfX S (WfN S n) x:=h
  have ih:=mexpr_all S w0 n
  obtain⟨m,rfl⟩:∃k,m=k+1:=by
   cases m with
   | zero=>exact hx.elim
   | succ m=>exact⟨m,rfl⟩
  obtain⟨kv,qv,lv,rv,rfl,hk,hq,hlv,hrv⟩:=hx
  obtain⟨Aq,cq,rfl⟩:=slice_of_segs hq
  obtain⟨Al,cl,rfl⟩:=slice_of_segs hlv
  obtain⟨Ar,cr,rfl⟩:=slice_of_segs hrv
  have hlen:=kids_len (n+1) x h
  rw [waitN]
  cases h' with
  | test p a =>
   obtain⟨Ak,ck,hkv,_⟩:=hk
   subst hkv
   refine⟨[(p,_)],by simp [tstE],fun z hz=>by simp at hz;rw [hz];exact SegsG.tree hq,rfl,rfl,?_⟩
   intro w g L rs J c W hm hl hlw
   have:=mexpr_test g c W w hm 0 0 0 0 0 false false ⟨#[]⟩ ⟨#[]⟩ path0 path0 Al Ar 0 cl 0 cr p Ak Aq 0 ck p.segs.length cq (by omega) (by simp at hlw;omega)
   rw [show insN (n+1) c.is.length W.length (tstE p)=[⟨0,W.length,0,0,0,⟨#[]⟩,0⟩] from by rw [insN];simp [tstE];rfl]
   exact this
  | cmp op a b a1 a2 a3 a4 a5 a6 =>
   obtain⟨Ak,ck,hkv,_⟩:=hk
   subst hkv
   cases hl:a.lit
   ·have hbl:b.lit=true:=by
     cases hb:b.lit;·rw [hl,hb] at a5;exact absurd rfl a5
     ·rfl
    refine⟨[(a.p,.slice Al a.p.segs.length cl)],by simp [cmpP,hl],fun z hz=>by simp at hz;rw [hz];exact SegsG.tree hlv,rfl,rfl,?_⟩
    intro w g L rs J c W hm hl4 hlw
    have:=mexpr_cmpR g c W w hm op a.kind a.n b.kind b.n b.lit (bs a.s) (bs b.s) a.p b.p Al Ar a.p.segs.length cl b.p.segs.length cr Ak Aq 0 ck 0 cq false (by omega) (by simp at hlw;omega)
    rw [show insN (n+1) c.is.length W.length (⟨4,[],path0,op,a,b⟩:ExprT)=[⟨1,W.length,op,b.kind,b.n,bs b.s,0⟩] from by rw [insN];simp [cmpD,hl]]
    unfold exL
    simp only
    rw [hl]
    exact this
   ·obtain⟨k,rfl⟩:∃k:Nat,op=k:=⟨op.toNat,by omega⟩
    refine⟨[(b.p,.slice Ar b.p.segs.length cr)],by simp [cmpP,hl],fun z hz=>by simp at hz;rw [hz];exact SegsG.tree hrv,rfl,rfl,?_⟩
    intro w g L rs J c W hm hl4 hlw
    have:=mexpr_cmpL g c W w hm a.kind a.n b.kind b.n b.lit (bs a.s) (bs b.s) a.p b.p Al Ar a.p.segs.length cl b.p.segs.length cr k (by omega) Ak Aq 0 ck 0 cq false (by omega) (by simp at hlw;omega)
    rw [show insN (n+1) c.is.length W.length (⟨4,[],path0,(k:Int),a,b⟩:ExprT)=[⟨1,W.length,turnS k,a.kind,a.n,bs a.s,0⟩] from by rw [insN];simp [cmpD,hl]]
    unfold exL
    simp only
    rw [hl]
    exact this
  | not k a =>
   obtain⟨b,off,c,D,rfl,hkD,hK,hW⟩:=kids_m ih (l:=[k]) (by intro y hy;simp at hy;rw [hy];exact a) (by simp) hk
   obtain⟨d,rfl⟩:∃d,D=[d]:=by
    match D,hkD with
    | [d],_=>exact⟨d,rfl⟩
   obtain rfl:d.x=k:=by simpa [ksD] using hkD
   refine⟨d.W,by simp [mkE,(hW d (by simp)).1],(hW d (by simp)).2,rfl,rfl,?_⟩
   intro w g L rs J c2 W hm hl hlw
   obtain⟨hkc,hr,_⟩:=hK.kc 0 d rfl
   have hll:=(hK.len d (by simp)).1
   have hl':c2.is.length+(lenN n d.x+1)≤999990:=by rw [lenN] at hl;simpa [mkE,lenK] using hl
   have:=mexpr_not g c2 W w hm 0 0 0 0 0 false false ⟨#[]⟩ ⟨#[]⟩ path0 path0 Al Ar 0 cl 0 cr Aq false 0 cq n b off c d hK.lt hkc (by rwa [Nat.zero_mul,Nat.add_zero] at hr) (hK.call d (by simp)) (hll _ _) (by omega) hlw
   rw [show insN (n+1) c2.is.length W.length (mkE 2 [d.x])=insN n c2.is.length W.length d.x++[⟨2,0,0,0,0,⟨#[]⟩,0⟩] from by rw [insN];simp [mkE,insK,opD];rfl,←List.append_assoc]
   exact this
  | or l a1 a2 =>
   obtain⟨b,off,c,D,rfl,hkD,hK,hW⟩:=kids_m ih (l:=l) a2 (two_ne a1) hk
   subst hkD
   have hDl:(ksD D).length=D.length:=by simp [ksD]
   refine⟨D.flatMap (·.W),(wait_flat fun d hd=>(hW d hd).1).trans (by simp [mkE]),fun z hz=>by
    obtain⟨d,hd,hz⟩:=List.mem_flatMap.1 hz
    exact(hW d hd).2 z hz,rfl,rfl,?_⟩
   intro w g L rs J c2 W hm hl hlw
   have hl':c2.is.length+lenK (lenN n) (ksD D)≤999990:=by rw [lenN] at hl;simpa [mkE] using hl
   have hlen':D.length≤lenK (lenN n) (ksD D):=by rw [lenN] at hlen;simpa [mkE,hDl] using hlen
   rw [nWD_len] at hlw
   have:=mexpr_or g c2 W w hm 0 0 0 0 0 false false ⟨#[]⟩ ⟨#[]⟩ path0 path0 Al Ar 0 cl 0 cr Aq false 0 cq n b off c D (by omega) hK hl' hlw (by omega)
   rw [show insN (n+1) c2.is.length W.length (mkE 0 (ksD D))=insO n 3 (c2.is.length+lenK (lenN n) (ksD D)) c2.is.length W.length (ksD D) from by rw [insN];simp [mkE,insO]]
   exact this
  | and l a1 a2 =>
   obtain⟨b,off,c,D,rfl,hkD,hK,hW⟩:=kids_m ih (l:=l) a2 (two_ne a1) hk
   subst hkD
   have hDl:(ksD D).length=D.length:=by simp [ksD]
   refine⟨D.flatMap (·.W),(wait_flat fun d hd=>(hW d hd).1).trans (by simp [mkE]),fun z hz=>by
    obtain⟨d,hd,hz⟩:=List.mem_flatMap.1 hz
    exact(hW d hd).2 z hz,rfl,rfl,?_⟩
   intro w g L rs J c2 W hm hl hlw
   have hl':c2.is.length+lenK (lenN n) (ksD D)≤999990:=by rw [lenN] at hl;simpa [mkE] using hl
   have hlen':D.length≤lenK (lenN n) (ksD D):=by rw [lenN] at hlen;simpa [mkE,hDl] using hlen
   rw [nWD_len] at hlw
   have:=mexpr_and g c2 W w hm 0 0 0 0 0 false false ⟨#[]⟩ ⟨#[]⟩ path0 path0 Al Ar 0 cl 0 cr Aq false 0 cq n b off c D (by omega) hK hl' hlw (by omega)
   rw [show insN (n+1) c2.is.length W.length (mkE 1 (ksD D))=insO n 4 (c2.is.length+lenK (lenN n) (ksD D)) c2.is.length W.length (ksD D) from by rw [insN];simp [mkE,insO]]
   exact this
end
/- code: sel (printed by gen_ze.py). -/
section
open Go.RowKit
set_option maxRecDepth 100000
set_option maxHeartbeats 2000000
theorem SL_sPex :SlF Tryz.prog 82 83 1 8 (.pointer none):=⟨Tryz.underlying82,by kernel_rfl,rfl,by decide⟩
theorem msel_nm (nm:ByteArray)(w:World):Calls Tryz.prog 31 #[.agg #[.int .i64 0,.string nm,.int .i64 0,.int .i64 0,.int .i64 0,.int .i64 0,.bool false,.bool false,.pointer none]] w fun e w'=>e=.returned (.agg #[.int .i64 0,.string nm,.int .i64 0,.int .i64 0,.int .i64 0,.bool false,.bool false,.int .i64 0])∧Bel w.heap.size w w':=by
 have M:=hH (Own.start [] w (fun _=>True) fun _ _=>trivial)
 go_enter Tryz.func31, Tryz.ntmps31
 generalize hQ:bodyPost Tryz.prog Tryz.f31 _=Q
 have HQ:=hH hQ;clear hQ
 let qd:=bodyPost Tryz.prog Tryz.f31 (fun _ _=>True)
 go_wp2_with (first|(with_reducible first|(refine l_al (d:=2) F_CSel M.out ?_;clear M;intro g2 w' hg2 M)|(refine l_al (d:=3) F_CSel M.out ?_;clear M;intro g3 w' hg3 M)|refine l_ld F_CSel M.out ?_|(refine l_st (cs:=#[.int .i64 0,.string nm,.int .i64 0,.int .i64 0,.int .i64 0,.bool false,.bool false,.int .i64 0]) F_CSel M.out ?_;clear M;intro w' M)|(refine l_st (cs:=#[.int .i64 0,.string nm,.int .i64 0,.int .i64 0,.int .i64 0,.bool false,.bool false,.int .i64 0]) F_CSel M.out ?_;clear M;intro w' M))|((with_reducible refine l_bx (d:=1) M.out ?_);clear M;intro g1 w' hg1 M;replace M:=hH M.out.freeze)|((with_reducible refine g_ld 3 ?_);refine l_ld1j O_int rfl M.out (fun y h=>h.2) (by exact rfl) ?_)|((with_reducible refine g_ld 9 ?_);refine l_ld1j O_str rfl M.out (fun y h=>h.2) (by exact rfl) ?_)|((with_reducible refine g_ld 2 ?_);refine l_ld1j O_i64 rfl M.out (fun y h=>h.2) (by exact rfl) ?_))
 rw [←HQ.out]
 exact bodyPost_ret (results_1 Tryz.results31 _ _ g2 _ _ rfl (M.out.blk (g2,_,_) (by repeat constructor)) F_CSel rfl) rfl ⟨rfl,M.out.bel0⟩
theorem msel_wild (w:World):Calls Tryz.prog 31 #[.agg #[.int .i64 1,.string ⟨#[]⟩,.int .i64 0,.int .i64 0,.int .i64 0,.int .i64 0,.bool false,.bool false,.pointer none]] w fun e w'=>e=.returned (.agg #[.int .i64 1,.string ⟨#[]⟩,.int .i64 0,.int .i64 0,.int .i64 0,.bool false,.bool false,.int .i64 0])∧Bel w.heap.size w w':=by
 have M:=hH (Own.start [] w (fun _=>True) fun _ _=>trivial)
 go_enter Tryz.func31, Tryz.ntmps31
 generalize hQ:bodyPost Tryz.prog Tryz.f31 _=Q
 have HQ:=hH hQ;clear hQ
 let qd:=bodyPost Tryz.prog Tryz.f31 (fun _ _=>True)
 go_wp2_with (first|(with_reducible first|(refine l_al (d:=2) F_CSel M.out ?_;clear M;intro g2 w' hg2 M)|(refine l_al (d:=3) F_CSel M.out ?_;clear M;intro g3 w' hg3 M)|refine l_ld F_CSel M.out ?_|(refine l_st (cs:=#[.int .i64 1,.string ⟨#[]⟩,.int .i64 0,.int .i64 0,.int .i64 0,.bool false,.bool false,.int .i64 0]) F_CSel M.out ?_;clear M;intro w' M)|(refine l_st (cs:=#[.int .i64 1,.string ⟨#[]⟩,.int .i64 0,.int .i64 0,.int .i64 0,.bool false,.bool false,.int .i64 0]) F_CSel M.out ?_;clear M;intro w' M))|((with_reducible refine l_bx (d:=1) M.out ?_);clear M;intro g1 w' hg1 M;replace M:=hH M.out.freeze)|((with_reducible refine g_ld 3 ?_);refine l_ld1j O_int rfl M.out (fun y h=>h.2) (by exact rfl) ?_)|((with_reducible refine g_ld 9 ?_);refine l_ld1j O_str rfl M.out (fun y h=>h.2) (by exact rfl) ?_)|((with_reducible refine g_ld 2 ?_);refine l_ld1j O_i64 rfl M.out (fun y h=>h.2) (by exact rfl) ?_))
 rw [←HQ.out]
 exact bodyPost_ret (results_1 Tryz.results31 _ _ g2 _ _ rfl (M.out.blk (g2,_,_) (by repeat constructor)) F_CSel rfl) rfl ⟨rfl,M.out.bel0⟩
theorem msel_idx (n:Int)(w:World):Calls Tryz.prog 31 #[.agg #[.int .i64 2,.string ⟨#[]⟩,.int .i64 n,.int .i64 0,.int .i64 0,.int .i64 0,.bool false,.bool false,.pointer none]] w fun e w'=>e=.returned (.agg #[.int .i64 2,.string ⟨#[]⟩,.int .i64 n,.int .i64 0,.int .i64 0,.bool false,.bool false,.int .i64 0])∧Bel w.heap.size w w':=by
 have M:=hH (Own.start [] w (fun _=>True) fun _ _=>trivial)
 go_enter Tryz.func31, Tryz.ntmps31
 generalize hQ:bodyPost Tryz.prog Tryz.f31 _=Q
 have HQ:=hH hQ;clear hQ
 let qd:=bodyPost Tryz.prog Tryz.f31 (fun _ _=>True)
 go_wp2_with (first|(with_reducible first|(refine l_al (d:=2) F_CSel M.out ?_;clear M;intro g2 w' hg2 M)|(refine l_al (d:=3) F_CSel M.out ?_;clear M;intro g3 w' hg3 M)|refine l_ld F_CSel M.out ?_|(refine l_st (cs:=#[.int .i64 2,.string ⟨#[]⟩,.int .i64 0,.int .i64 0,.int .i64 0,.bool false,.bool false,.int .i64 0]) F_CSel M.out ?_;clear M;intro w' M)|(refine l_st (cs:=#[.int .i64 2,.string ⟨#[]⟩,.int .i64 n,.int .i64 0,.int .i64 0,.bool false,.bool false,.int .i64 0]) F_CSel M.out ?_;clear M;intro w' M))|((with_reducible refine l_bx (d:=1) M.out ?_);clear M;intro g1 w' hg1 M;replace M:=hH M.out.freeze)|((with_reducible refine g_ld 3 ?_);refine l_ld1j O_int rfl M.out (fun y h=>h.2) (by exact rfl) ?_)|((with_reducible refine g_ld 9 ?_);refine l_ld1j O_str rfl M.out (fun y h=>h.2) (by exact rfl) ?_)|((with_reducible refine g_ld 2 ?_);refine l_ld1j O_i64 rfl M.out (fun y h=>h.2) (by exact rfl) ?_)|((with_reducible refine g_st 2 ?_);refine l_st1 (v:=.int .i64 n) O_i64 rfl rfl M.out ?_;clear M;intro w' M))
 rw [←HQ.out]
 exact bodyPost_ret (results_1 Tryz.results31 _ _ g2 _ _ rfl (M.out.blk (g2,_,_) (by repeat constructor)) F_CSel rfl) rfl ⟨rfl,M.out.bel0⟩
theorem msel_slice (a b c:Int)(ha hb:Bool)(w:World):Calls Tryz.prog 31 #[.agg #[.int .i64 3,.string ⟨#[]⟩,.int .i64 0,.int .i64 a,.int .i64 b,.int .i64 c,.bool ha,.bool hb,.pointer none]] w fun e w'=>e=.returned (.agg #[.int .i64 3,.string ⟨#[]⟩,.int .i64 a,.int .i64 b,.int .i64 c,.bool ha,.bool hb,.int .i64 0])∧Bel w.heap.size w w':=by
 have M:=hH (Own.start [] w (fun _=>True) fun _ _=>trivial)
 go_enter Tryz.func31, Tryz.ntmps31
 generalize hQ:bodyPost Tryz.prog Tryz.f31 _=Q
 have HQ:=hH hQ;clear hQ
 let qd:=bodyPost Tryz.prog Tryz.f31 (fun _ _=>True)
 go_upto_region 6 with(first|(with_reducible first|(refine l_al (d:=2) F_CSel M.out ?_;clear M;intro g2 w' hg2 M)|(refine l_al (d:=3) F_CSel M.out ?_;clear M;intro g3 w' hg3 M)|refine l_ld F_CSel M.out ?_|(refine l_st (cs:=#[.int .i64 3,.string ⟨#[]⟩,.int .i64 0,.int .i64 0,.int .i64 0,.bool false,.bool false,.int .i64 0]) F_CSel M.out ?_;clear M;intro w' M))|((with_reducible refine l_bx (d:=1) M.out ?_);clear M;intro g1 w' hg1 M;replace M:=hH M.out.freeze)|((with_reducible refine g_ld 3 ?_);refine l_ld1j O_int rfl M.out (fun y h=>h.2) (by exact rfl) ?_)|((with_reducible refine g_ld 9 ?_);refine l_ld1j O_str rfl M.out (fun y h=>h.2) (by exact rfl) ?_)|((with_reducible refine g_ld 2 ?_);refine l_ld1j O_i64 rfl M.out (fun y h=>h.2) (by exact rfl) ?_))
 replace M:=hH M.out.drew
 refine tbh (fun y=>True∧Blk y g1 85 #[.int .i64 3,.string ⟨#[]⟩,.int .i64 0,.int .i64 a,.int .i64 b,.int .i64 c,.bool ha,.bool hb,.pointer none]) M.out.now fun hS=>?_
 refine tkp 0 rfl hS ?_
 refine tk 1 rfl hS (y_ld1 O_i64 _ g1 3 rfl _ _ (fun y h=>h.2) _ rfl) ?_
 refine tkp 2 rfl hS ?_
 refine tk 3 rfl hS (y_ld1 O_i64 _ g1 4 rfl _ _ (fun y h=>h.2) _ rfl) ?_
 refine tkp 4 rfl hS ?_
 refine tk 5 rfl hS (y_ld1 O_i64 _ g1 5 rfl _ _ (fun y h=>h.2) _ rfl) ?_
 refine tkp 6 rfl hS ?_
 refine tk 7 rfl hS (y_ld1 O_bool _ g1 6 rfl _ _ (fun y h=>h.2) _ rfl) ?_
 refine tkp 8 rfl hS ?_
 refine tk 9 rfl hS (y_ld1 O_bool _ g1 7 rfl _ _ (fun y h=>h.2) _ rfl) ?_
 refine tkp 10 rfl hS ?_
 repeat' (first|((with_reducible refine gR ?_);first|exact .nil|(refine r_st1 O_i64 (v:=.int .i64 a) (i:=11) rfl rfl rfl M.out ?_ ?_;clear M;intro w' M;refine⟨M.out.now,tn ?_⟩)|(refine r_st1 O_i64 (v:=.int .i64 b) (i:=13) rfl rfl rfl M.out ?_ ?_;clear M;intro w' M;refine⟨M.out.now,tn ?_⟩)|(refine r_st1 O_i64 (v:=.int .i64 c) (i:=15) rfl rfl rfl M.out ?_ ?_;clear M;intro w' M;refine⟨M.out.now,tn ?_⟩)|(refine r_st1 O_bool (v:=.bool ha) (i:=17) rfl rfl rfl M.out ?_ ?_;clear M;intro w' M;refine⟨M.out.now,tn ?_⟩)|(refine r_st1 O_bool (v:=.bool hb) (i:=19) rfl rfl rfl M.out ?_ ?_;clear M;intro w' M;refine⟨M.out.now,tn ?_⟩))|((with_reducible refine gW ?_);first|refine tkpd 12 rfl M.out.now ?_|refine tkpd 14 rfl M.out.now ?_|refine tkpd 16 rfl M.out.now ?_|refine tkpd 18 rfl M.out.now ?_|refine trd [11] ?_|refine trd [13] ?_|refine trd [15] ?_|refine trd [17] ?_|refine trd [19] ?_|refine ted ?_))
 all_goals
  go_wp2_with (first|(with_reducible first|refine l_ld F_CSel M.out ?_|(refine l_st (cs:=#[.int .i64 3,.string ⟨#[]⟩,.int .i64 a,.int .i64 b,.int .i64 c,.bool ha,.bool hb,.int .i64 0]) F_CSel M.out ?_;clear M;intro w' M)))
  rw [←HQ.out]
  exact bodyPost_ret (results_1 Tryz.results31 _ _ g2 _ _ rfl (M.out.blk (g2,_,_) (by repeat constructor)) F_CSel rfl) rfl ⟨rfl,M.out.bel0⟩
theorem msel_filt (q:Option Addr)(w:World):Calls Tryz.prog 31 #[.agg #[.int .i64 4,.string ⟨#[]⟩,.int .i64 0,.int .i64 0,.int .i64 0,.int .i64 0,.bool false,.bool false,.pointer q]] w fun e w'=>e=.returned (.agg #[.int .i64 4,.string ⟨#[]⟩,.int .i64 0,.int .i64 0,.int .i64 0,.bool false,.bool false,.int .i64 0])∧Bel w.heap.size w w':=by
 have M:=hH (Own.start [] w (fun _=>True) fun _ _=>trivial)
 go_enter Tryz.func31, Tryz.ntmps31
 generalize hQ:bodyPost Tryz.prog Tryz.f31 _=Q
 have HQ:=hH hQ;clear hQ
 let qd:=bodyPost Tryz.prog Tryz.f31 (fun _ _=>True)
 go_wp2_with (first|(with_reducible first|(refine l_al (d:=2) F_CSel M.out ?_;clear M;intro g2 w' hg2 M)|(refine l_al (d:=3) F_CSel M.out ?_;clear M;intro g3 w' hg3 M)|refine l_ld F_CSel M.out ?_|(refine l_st (cs:=#[.int .i64 4,.string ⟨#[]⟩,.int .i64 0,.int .i64 0,.int .i64 0,.bool false,.bool false,.int .i64 0]) F_CSel M.out ?_;clear M;intro w' M)|(refine l_st (cs:=#[.int .i64 4,.string ⟨#[]⟩,.int .i64 0,.int .i64 0,.int .i64 0,.bool false,.bool false,.int .i64 0]) F_CSel M.out ?_;clear M;intro w' M))|((with_reducible refine l_bx (d:=1) M.out ?_);clear M;intro g1 w' hg1 M;replace M:=hH M.out.freeze)|((with_reducible refine g_ld 3 ?_);refine l_ld1j O_int rfl M.out (fun y h=>h.2) (by exact rfl) ?_)|((with_reducible refine g_ld 9 ?_);refine l_ld1j O_str rfl M.out (fun y h=>h.2) (by exact rfl) ?_)|((with_reducible refine g_ld 2 ?_);refine l_ld1j O_i64 rfl M.out (fun y h=>h.2) (by exact rfl) ?_))
 rw [←HQ.out]
 exact bodyPost_ret (results_1 Tryz.results31 _ _ g2 _ _ rfl (M.out.blk (g2,_,_) (by repeat constructor)) F_CSel rfl) rfl ⟨rfl,M.out.bel0⟩
theorem msel_any {S:List UInt8→Prop}{W:ExprT→Prop}{z:SelT×Option Addr}(h:WfS S W z.1)(hq:z.1.kind≠4→z.2=none)(w:World):Calls Tryz.prog 31 #[.agg (yC z).toArray] w fun e w'=>e=.returned (.agg (selC (selD z.1 0)).toArray)∧Bel w.heap.size w w':=by
 obtain⟨y,q⟩:=z
 simp only at h hq
 cases h with
 | nm s a =>
  obtain rfl:=hq (by simp)
  exact msel_nm (bs s) w
 | wild =>
  obtain rfl:=hq (by simp)
  exact msel_wild w
 | idx n a =>
  obtain rfl:=hq (by simp)
  rw [show selC (selD (⟨2,[],n,0,0,0,false,false,none⟩:SelT) 0)=[.int .i64 2,.string ⟨#[]⟩,.int .i64 n,.int .i64 0,.int .i64 0,.bool false,.bool false,.int .i64 0] from by unfold selC selD;simp only [Int.add_zero];rfl]
  exact msel_idx n w
 | slice a b c ha hb a1 a2 a3 a4 a5 =>
  obtain rfl:=hq (by simp)
  rw [show selC (selD (⟨3,[],0,a,b,c,ha,hb,none⟩:SelT) 0)=[.int .i64 3,.string ⟨#[]⟩,.int .i64 a,.int .i64 b,.int .i64 c,.bool ha,.bool hb,.int .i64 0] from by unfold selC selD;simp only [Int.zero_add];rfl]
  exact msel_slice a b c ha hb w
 | filt e a=>exact msel_filt q w
end

end Go.Proofs.YtjbdcjcfijjiiaaGreatDoor

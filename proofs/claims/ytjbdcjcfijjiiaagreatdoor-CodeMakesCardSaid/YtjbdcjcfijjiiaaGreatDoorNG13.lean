/- NG13: Cb, Cg joined. -/
import Derived.Test.YtjbdcjcfijjiiaaGreatDoorNG12
namespace Go.Proofs.YtjbdcjcfijjiiaaGreatDoor
open Go.RowKit
/- Code of a tree, on lists: the mirror, and what it is like (plain; no word of a dump). -/
section
def selD (y:SelT)(a:Int):SelD:=⟨y.kind,bs y.name,y.index+y.fr,y.tt,y.step,y.hf,y.ht,a⟩
def turnS (i:Int):Int:=if i=2 then 4 else if i=3 then 5 else if i=4 then 2 else if i=5 then 3 else i
def cmpD (b:Nat)(x:ExprT):InsD:=if x.left.lit then ⟨1,b,turnS x.op,x.left.kind,x.left.n,bs x.left.s,0⟩ else ⟨1,b,x.op,x.right.kind,x.right.n,bs x.right.s,0⟩
def cmpP (x:ExprT):PathT:=if x.left.lit then x.right.p else x.left.p
def opD (k:Int):InsD:=⟨k,0,0,0,0,bs [],0⟩
def lenK (L:ExprT→Nat):List ExprT→Nat
 | []=>0
 | x::r=>L x+(if r.isEmpty then 0 else lenK L r+1)
def lenN :Nat→ExprT→Nat
 | 0,_=>0
 | n+1,x=>if x.kind=3∨x.kind=4 then 1 else if x.kind=2 then lenK (lenN n) x.kids+1 else lenK (lenN n) x.kids
def waitN :Nat→ExprT→List PathT
 | 0,_=>[]
 | n+1,x=>if x.kind=3 then [x.q] else if x.kind=4 then [cmpP x] else x.kids.flatMap (waitN n)
def insK (I:Nat→Nat→ExprT→List InsD)(L Wt:ExprT→Nat)(op:Int)(E:Nat):Nat→Nat→List ExprT→List InsD
 | _,_,[]=>[]
 | a,b,x::r=>I a b x++(if r.isEmpty then [] else ⟨op,0,0,0,0,bs [],E⟩::insK I L Wt op E (a+L x+1) (b+Wt x) r)
def insN :Nat→Nat→Nat→ExprT→List InsD
 | 0,_,_,_=>[]
 | n+1,a,b,x =>
  if x.kind=3 then [⟨0,b,0,0,0,bs [],0⟩]
  else if x.kind=4 then [cmpD b x]
  else if x.kind=2 then insK (insN n) (lenN n) (fun k=>(waitN n k).length) 0 0 a b x.kids++[opD 2]
  else insK (insN n) (lenN n) (fun k=>(waitN n k).length) (3+x.kind) (a+lenK (lenN n) x.kids) a b x.kids
def flD (n:Nat):Nat→Nat→List SelT→List SelD×List InsD
 | _,_,[]=>([],[])
 | a,b,y::r=>match y.f with
  | none=>(selD y 0::(flD n a b r).1,(flD n a b r).2)
  | some e=>(selD y a::(flD n (a+lenN n e+1) (b+(waitN n e).length) r).1,insN n a b e++opD 5::(flD n (a+lenN n e+1) (b+(waitN n e).length) r).2)
def flW (n:Nat):List SelT→List PathT
 | []=>[]
 | y::r=>(match y.f with|none=>[]|some e=>waitN n e)++flW n r
def gsD :Nat→List SegT→List SegD
 | _,[]=>[]
 | a,s::r=>⟨s.deep,a,(a+s.sels.length:Nat)⟩::gsD (a+s.sels.length) r
def selsOf (l:List SegT):List SelT:=l.flatMap fun s=>s.sels
def layP (n b:Nat)(c:CodeD)(p:PathT):CodeD :=
 ⟨c.ps++[⟨p.abs,c.gs.length,(c.gs.length+p.segs.length:Nat)⟩],c.gs++gsD c.ss.length p.segs,c.ss++(flD n c.is.length b (selsOf p.segs)).1,c.is++(flD n c.is.length b (selsOf p.segs)).2⟩
def makeL (n:Nat):Nat→CodeD→List PathT→CodeD
 | 0,c,_=>c
 | _+1,c,[]=>c
 | f+1,c,p::r=>makeL n f (layP n (c.ps.length+1+r.length) c p) (r++flW n (selsOf p.segs))
def code0 :CodeD:=⟨[],[],[],[]⟩
def codeT (p:PathT):CodeD:=makeL 200 5000 code0 [p]
section
variable  {S:List UInt8→Prop}
theorem lenK_le (L:ExprT→Nat):∀l:List ExprT,lenK L l+1≤(l.map fun k=>L k+1).sum+1
 | []=>by simp [lenK]
 | x::r=>by
  rw [lenK,List.map_cons,List.sum_cons]
  have:=lenK_le L r
  split <;> omega
theorem lenK_pos (L:ExprT→Nat){l:List ExprT}(h:∀k∈l,1≤L k)(h0:l≠[]):1≤lenK L l:=by
 cases l with
 | nil=>exact absurd rfl h0
 | cons x r=>rw [lenK];have:=h x (by simp);omega
theorem two_ne {α:Type}{l:List α}(h:2≤l.length):l≠[]:=by intro e;rw [e] at h;simp at h
theorem lenN_pos :∀(n:Nat) (x:ExprT),WfN S n x→1≤lenN n x
 | 0,_,h=>h.elim
 | n+1,x,h=>by
  have h':WfX S (WfN S n) x:=h
  rw [lenN]
  cases h' with
  | or l a b=>exact lenK_pos _ (fun k hk=>lenN_pos n k (b k hk)) (two_ne a)
  | and l a b=>exact lenK_pos _ (fun k hk=>lenN_pos n k (b k hk)) (two_ne a)
  | not k a=>simp [mkE]
  | test p a=>simp [tstE]
  | cmp op a b a1 a2 a3 a4 a5 a6=>simp
theorem insK_len {I:Nat→Nat→ExprT→List InsD}{L Wt:ExprT→Nat}{op:Int}{E:Nat}:∀(l:List ExprT) (a b:Nat),(∀k∈l,∀a b,(I a b k).length=L k)→(insK I L Wt op E a b l).length=lenK L l
 | [],_,_,_=>rfl
 | x::r,a,b,h=>by
  rw [insK,lenK,List.length_append,h x (by simp)]
  split
  ·rfl
  ·rw [List.length_cons,insK_len r _ _ fun k hk=>h k (by simp [hk])]
theorem insN_len :∀(n:Nat) (x:ExprT),WfN S n x→∀a b,(insN n a b x).length=lenN n x
 | 0,_,h=>h.elim
 | n+1,x,h=>fun a b=>by
  have h':WfX S (WfN S n) x:=h
  have ih:∀k,WfN S n k→∀a b,(insN n a b k).length=lenN n k:=fun k hk=>insN_len n k hk
  rw [insN,lenN]
  cases h' with
  | or l a1 b1=>simp only [mkE];exact insK_len l _ _ fun k hk=>ih k (b1 k hk)
  | and l a1 b1=>simp only [mkE];exact insK_len l _ _ fun k hk=>ih k (b1 k hk)
  | not k a1 =>
   have:=insK_len (Wt:=fun k=>(waitN n k).length) (op:=0) (E:=0) [k] a b (fun y hy=>by simp at hy;rw [hy];exact ih k a1)
   simp [mkE,this]
  | test p a1=>simp [tstE]
  | cmp op x y a1 a2 a3 a4 a5 a6=>simp
theorem cmp_path {W:ExprT→Prop}{op:Int}{a b:SideT}(a3:WfSide S W a)(a4:WfSide S W b)(a5:a.lit≠b.lit):WfP S W (cmpP ⟨4,[],path0,op,a,b⟩):=by
 unfold cmpP
 simp only
 cases h:a.lit
 ·simp only [Bool.false_eq_true,if_false]
  cases a3 with
  | path p a=>exact a
  | _=>cases h
 ·simp only [if_true]
  cases a4 with
  | path p a=>exact a
  | _=>exact absurd h a5
theorem waitN_wf :∀(n:Nat) (x:ExprT),WfN S n x→∀q∈waitN n x,WfP S (WfN S n) q
 | 0,_,h=>h.elim
 | n+1,x,h=>fun q hq=>by
  have h':WfX S (WfN S n) x:=h
  have up:∀{q},WfP S (WfN S n) q→WfP S (WfN S (n+1)) q:=fun k=>k.mono fun e he=>WfN.up n (n+1) (by omega) e he
  have key:∀l:List ExprT,(∀k∈l,WfN S n k)→q∈l.flatMap (waitN n)→WfP S (WfN S (n+1)) q:=fun l hl hm=>by
   obtain⟨k,hk,hm⟩:=List.mem_flatMap.1 hm
   exact up (waitN_wf n k (hl k hk) q hm)
  rw [waitN] at hq
  cases h' with
  | or l a b=>exact key l b hq
  | and l a b=>exact key l b hq
  | not k a=>exact key [k] (by intro y hy;simp at hy;rw [hy];exact a) hq
  | test p a=>simp [tstE] at hq;rw [hq];exact up a
  | cmp op a b a1 a2 a3 a4 a5 a6=>simp at hq;rw [hq];exact up (cmp_path a3 a4 a5)
theorem sum_le {α:Type}{f g:α→Nat}:∀{l:List α},(∀x∈l,f x≤g x)→(l.map f).sum≤(l.map g).sum
 | [],_=>Nat.le_refl _
 | x::l,h=>by
  rw [List.map_cons,List.map_cons,List.sum_cons,List.sum_cons]
  have:=h x (by simp)
  have:=sum_le (l:=l) fun y hy=>h y (by simp [hy])
  omega
theorem sum_add {α:Type}(f g:α→Nat):∀l:List α,(l.map fun x=>f x+g x).sum=(l.map f).sum+(l.map g).sum
 | []=>rfl
 | x::l=>by simp only [List.map_cons,List.sum_cons,sum_add f g l];omega
theorem sum_flat {α β:Type}(f:α→List β)(g:β→Nat):∀l:List α,((l.flatMap f).map g).sum=(l.map fun x=>((f x).map g).sum).sum
 | []=>rfl
 | x::l=>by rw [List.flatMap_cons,List.map_append,List.sum_append,sum_flat f g l,List.map_cons,List.sum_cons]
theorem cost (N:Nat):∀(n:Nat) (x:ExprT),n≤N→WfN S n x→lenN n x+((waitN n x).map (wtP (wtN N))).sum+1≤wtN n x
 | 0,_,_,h=>h.elim
 | n+1,x,hn,h=>by
  have h':WfX S (WfN S n) x:=h
  have ih:∀k,WfN S n k→lenN n k+((waitN n k).map (wtP (wtN N))).sum+1≤wtN n k:=fun k hk=>cost N n k (by omega) hk
  have eqP:∀{q},WfP S (WfN S n) q→wtP (wtN N) q=wtP (wtN n) q:=fun k=>wtP_eq (W:=WfN S n) (fun e he=>wtN_up n N (by omega) e he) k
  have key:∀l:List ExprT,(∀k∈l,WfN S n k)→lenK (lenN n) l+((l.flatMap (waitN n)).map (wtP (wtN N))).sum≤(l.map (wtN n)).sum:=fun l hl=>by
   have h1:=lenK_le (lenN n) l
   rw [sum_flat]
   have h2:=sum_le (f:=fun k=>(lenN n k+1)+((waitN n k).map (wtP (wtN N))).sum) (g:=wtN n) (l:=l) fun k hk=>by have:=ih k (hl k hk);omega
   rw [sum_add] at h2
   omega
  rw [lenN,waitN]
  cases h' with
  | or l a b=>have:=key l b;rw [wt_mk];simp [mkE] at this ⊢;omega
  | and l a b=>have:=key l b;rw [wt_mk];simp [mkE] at this ⊢;omega
  | not k a =>
   have:=key [k] (by intro y hy;simp at hy;rw [hy];exact a)
   rw [wt_mk];simp [mkE] at this ⊢;omega
  | test p a=>have:=eqP a;rw [wtN];simp [tstE,side0,path0,wtP] at this ⊢;omega
  | cmp op a b a1 a2 a3 a4 a5 a6 =>
   have h3:=eqP (cmp_path (op:=op) a3 a4 a5)
   rw [wtN]
   have h4:1≤wtP (wtN n) a.p:=by unfold wtP;omega
   have h5:1≤wtP (wtN n) b.p:=by unfold wtP;omega
   have h6:1≤wtP (wtN n) path0:=by unfold wtP;omega
   simp at h3 ⊢
   rw [h3]
   unfold cmpP
   cases a.lit <;> simp <;> omega
theorem flD_len (n:Nat):∀(l:List SelT) (a b:Nat),(flD n a b l).1.length=l.length
 | [],_,_=>rfl
 | y::r,a,b=>by
  rw [flD]
  split <;> simp [flD_len n r]
theorem fl_cost (N:Nat):∀(l:List SelT) (a b:Nat),(∀y∈l,WfS S (WfN S N) y)→l.length+(flD N a b l).2.length+((flW N l).map (wtP (wtN N))).sum≤(l.map (wtS (wtN N))).sum
 | [],_,_,_=>by simp [flD,flW]
 | y::r,a,b,h=>by
  have hr:=fun a b=>fl_cost N r a b fun y hy=>h y (by simp [hy])
  have hy:=h y (by simp)
  rw [List.map_cons,List.sum_cons,flD,flW]
  cases hf:y.f with
  | none=>have:=hr a b;rw [wtS_none hf];simp only [List.nil_append,List.length_cons] at this ⊢;omega
  | some e =>
   have he:WfN S N e:=by
    cases hy with
    | filt e' k=>obtain rfl:=Option.some.inj hf;exact k
    | _=>cases hf
   have h1:=cost N N e (Nat.le_refl _) he
   have h2:=hr (a+lenN N e+1) (b+(waitN N e).length)
   have h3:wtS (wtN N) y=1+wtN N e:=by simp [wtS,hf]
   simp only [List.length_append,List.length_cons,insN_len N e he,List.map_append,List.sum_append]
   omega
theorem selsOf_mem {l:List SegT}{y:SelT}(h:y∈selsOf l):∃s∈l,y∈s.sels:=List.mem_flatMap.1 h
theorem gsD_len :∀(l:List SegT) (a:Nat),(gsD a l).length=l.length
 | [],_=>rfl
 | s::r,a=>by rw [gsD,List.length_cons,gsD_len r,List.length_cons]
theorem path_cost (N:Nat)(p:PathT)(a b:Nat)(h:WfP S (WfN S N) p):1+p.segs.length+(selsOf p.segs).length+(flD N a b (selsOf p.segs)).2.length+((flW N (selsOf p.segs)).map (wtP (wtN N))).sum≤wtP (wtN N) p:=by
 have h1:=fl_cost N (selsOf p.segs) a b fun y hy=>by
  obtain⟨s,hs,hy⟩:=selsOf_mem hy
  exact(h s hs).2 y hy
 have h2:∀l:List SegT,l.length+((selsOf l).map (wtS (wtN N))).sum=(l.map (wtG (wtN N))).sum:=fun l=>by
  induction l with
  | nil=>rfl
  | cons s r ih =>
   unfold selsOf at ih ⊢
   rw [List.flatMap_cons,List.map_append,List.sum_append,List.map_cons,List.sum_cons,←ih,List.length_cons]
   unfold wtG;omega
 have:=h2 p.segs
 show _≤1+(p.segs.map (wtG (wtN N))).sum
 omega
theorem flW_mem {N:Nat}{q:PathT}:∀{l:List SelT},(∀y∈l,WfS S (WfN S N) y)→q∈flW N l→WfP S (WfN S N) q
 | [],_,h=>by simp [flW] at h
 | y::r,hl,h=>by
  rw [flW,List.mem_append] at h
  rcases h with h|h
  ·cases hf:y.f with
   | none=>rw [hf] at h;simp at h
   | some e =>
    rw [hf] at h
    have hy:=hl y (by simp)
    have he:WfN S N e:=by
     cases hy with
     | filt e' k=>obtain rfl:=Option.some.inj hf;exact k
     | _=>cases hf
    exact waitN_wf N e he q h
  ·exact flW_mem (fun y hy=>hl y (by simp [hy])) h
theorem sels_wf {W:ExprT→Prop}{p:PathT}(h:WfP S W p):∀y∈selsOf p.segs,WfS S W y:=fun y hy=>by
 obtain⟨s,hs,hy⟩:=selsOf_mem hy
 exact(h s hs).2 y hy
end
end
/- ref19: expr, but for or and and (printed by gen_cg.py). -/
section
open Go.RowKit
set_option maxRecDepth 100000
set_option maxHeartbeats 2000000
section
variable  (B1 B2 B3 A4 A5:Option Addr)(m1 d1 m2 d2 m3 d3 c4 c5 n4 nw:Nat)(xs wc:List Value)(w:World)
def MoreP (ls:List InsD)(nx:Nat)(wx:List Value)(e:Ending)(w':World):Prop :=
 ∃A4' c4' A5' c5',e=.returned (.agg #[.slice B1 m1 d1,.slice B2 m2 d2,.slice B3 m3 d3,.slice A4' (n4+ls.length) c4',.slice A5' (nw+nx) c5'])∧Rdd w' 7 A4' (n4+ls.length) (xs++ls.flatMap insC)∧FrA w A4'∧Rdd w' 2 A5' (nw+nx) (wc++wx)∧FrA w A5'∧Bel w.heap.size w w'
section
variable  (h4:Rdd w 7 A4 n4 xs)(h5:Rdd w 2 A5 nw wc)(h0:∀u∈xs,u.oneCell'=true)(h1:∀u∈wc,u.oneCell'=true)(hl:n4≤999990)(hlw:nw≤999990)
include h4 h5 h0 h1 hl hlw
theorem rexpr_test (z1 z4 z5 z6 z7 z8 z9 z10 z11 z12 z13 z14 z15 z16:Value)(qa:Bool)(qA:Option Addr)(qn qc:Nat):Calls Tryz.prog 41 #[.agg #[.slice B1 m1 d1,.slice B2 m2 d2,.slice B3 m3 d3,.slice A4 n4 c4,.slice A5 nw c5],.agg #[.int .i64 3,z1,.bool qa,.slice qA qn qc,z4,z5,z6,z7,z8,z9,z10,z11,z12,z13,z14,z15,z16]] w (MoreP B1 B2 B3 m1 d1 m2 d2 m3 d3 n4 nw xs wc w [⟨0,nw,0,0,0,⟨#[]⟩,0⟩] 1 [.bool qa,.slice qA qn qc]):=by
 have M:=hH (Own.start [] w (fun y=>Rdd y 7 A4 n4 xs∧Rdd y 2 A5 nw wc) fun y hy=>⟨h4.old hy,h5.old hy⟩)
 unfold MoreP
 clear h4 h5
 go_enter Tryz.func41, Tryz.ntmps41
 generalize hQ:bodyPost Tryz.prog Tryz.f41 _=Q
 have HQ:=hH hQ;clear hQ
 go_upto_region 24 with(first|(with_reducible (refine l_al (d:=4) F_M M.out ?_;clear M;intro g4 w' hg4 M))|((with_reducible refine l_bx (d:=2) M.out ?_);clear M;intro g2 w' hg2 M;replace M:=hH M.out.freeze)|((with_reducible refine l_bx (d:=3) M.out ?_);clear M;intro g3 w' hg3 M;replace M:=hH M.out.freeze)|((with_reducible refine g_ld 3 ?_);refine l_ld1j O_int rfl M.out (fun y h=>h.2) (by exact rfl) ?_))
 replace M:=hH M.out.drew
 refine tbh (fun y=>((Rdd y 7 A4 n4 xs∧Rdd y 2 A5 nw wc)∧Blk y g2 68 #[.slice B1 m1 d1,.slice B2 m2 d2,.slice B3 m3 d3,.slice A4 n4 c4,.slice A5 nw c5])∧Blk y g3 92 #[.int .i64 3,z1,.bool qa,.slice qA qn qc,z4,z5,z6,z7,z8,z9,z10,z11,z12,z13,z14,z15,z16]) M.out.now fun hS=>?_
 refine tk 0 rfl hS (y_ld F_M _ _ rfl _ _ (fun _ h=>h.1.2) rfl) ?_
 refine tkp 1 rfl hS ?_
 refine tk 2 rfl hS (y_ld1 O_sPath _ _ _ rfl _ _ (fun _ h=>h.1.2) _ rfl) ?_
 refine tkp 3 rfl hS ?_
 refine tkp 4 rfl hS ?_
 refine tkp 6 rfl hS ?_
 refine tk 7 rfl hS (y_ldm F_Path _ _ _ rfl _ _ (fun _ h=>h.2) _ rfl rfl) ?_
 refine tr [5] ?_
 refine rdy_call (rput_any B1 B2 B3 A4 A5 m1 d1 m2 d2 m3 d3 c4 nw c5 _ n4 xs (⟨0,nw,0,0,0,⟨#[]⟩,0⟩) (by omega) h0 (M.out.now.1.1.1)) (i:=5) (op:=.call _) rfl (by go_simp) ?_
 rintro e w' ⟨Ax,cx,rfl,hrd,hfr,hb⟩;have Mn:=M.out.addRd hb hrd hfr;have HF1:=hH (hfr.le M.out.size);replace M:=hH Mn;clear Mn hb hrd hfr;refine⟨_,rfl,?_⟩;refine⟨M.out.now.1,tn ?_⟩
 refine tr [8] ?_
 refine rdy_call (rmeet_any B1 B2 B3 Ax A5 m1 d1 m2 d2 m3 d3 cx nw c5 _ (n4+1) wc qa qA qn qc (by omega) h1 (M.out.now.1.1.1.2)) (i:=8) (op:=.call _) rfl (by go_simp) ?_
 rintro e w' ⟨Ay,cy,rfl,hrd,hfr,hb⟩;have Mn:=M.out.addRd hb hrd hfr;have HF2:=hH (hfr.le M.out.size);replace M:=hH Mn;clear Mn hb hrd hfr;refine⟨_,rfl,?_⟩;refine⟨M.out.now.1.1,tn ?_⟩
 refine tr [9] ?_
 refine r_st F_M (i:=9) rfl rfl rfl M.out ?_
 clear M;intro w' M;refine an M.out.now.1.1 fun hS=>tn ?_
 refine te ?_
 go_wp2
 rw [←HQ.out]
 exact bodyPost_ret (results_1 Tryz.results41 _ _ g4 _ _ rfl (M.out.blk (g4,_,_) (by repeat constructor)) F_M rfl) rfl ⟨_,_,_,_,rfl,by have:=M.out.now.1.2;simpa using this,HF1.out,M.out.now.2,HF2.out,M.out.bel0⟩
theorem rexpr_cmpR (z1 z2 z3 z6 z7 z8 z11 z15 z16:Value)(op rk rn:Int)(rs:ByteArray)(qa:Bool)(qA:Option Addr)(qn qc:Nat):Calls Tryz.prog 41 #[.agg #[.slice B1 m1 d1,.slice B2 m2 d2,.slice B3 m3 d3,.slice A4 n4 c4,.slice A5 nw c5],.agg #[.int .i64 4,z1,z2,z3,.int .i64 op,.bool false,z6,z7,z8,.bool qa,.slice qA qn qc,z11,.int .i64 rk,.int .i64 rn,.string rs,z15,z16]] w (MoreP B1 B2 B3 m1 d1 m2 d2 m3 d3 n4 nw xs wc w [⟨1,nw,op,rk,rn,rs,0⟩] 1 [.bool qa,.slice qA qn qc]):=by
 have M:=hH (Own.start [] w (fun y=>Rdd y 7 A4 n4 xs∧Rdd y 2 A5 nw wc) fun y hy=>⟨h4.old hy,h5.old hy⟩)
 unfold MoreP
 clear h4 h5
 go_enter Tryz.func41, Tryz.ntmps41
 generalize hQ:bodyPost Tryz.prog Tryz.f41 _=Q
 have HQ:=hH hQ;clear hQ
 go_upto_region 30 with(first|(with_reducible first|(refine l_al (d:=4) F_M M.out ?_;clear M;intro g4 w' hg4 M)|(refine l_al (d:=12) F_Ins M.out ?_;clear M;intro g12 w' hg12 M))|((with_reducible refine l_bx (d:=2) M.out ?_);clear M;intro g2 w' hg2 M;replace M:=hH M.out.freeze)|((with_reducible refine l_bx (d:=3) M.out ?_);clear M;intro g3 w' hg3 M;replace M:=hH M.out.freeze)|((with_reducible refine g_ld 3 ?_);refine l_ld1j O_int rfl M.out (fun y h=>h.2) (by exact rfl) ?_)|((with_reducible refine g_ld 4 ?_);refine l_ld1j O_bool rfl M.out (fun y h=>h.2) (by exact rfl) ?_)|((with_reducible refine g_ld 2 ?_);refine l_ld1j O_i64 rfl M.out (fun y h=>h.2) (by exact rfl) ?_)|((with_reducible refine g_ld 9 ?_);refine l_ld1j O_str rfl M.out (fun y h=>h.2) (by exact rfl) ?_)|((with_reducible refine g_ld 59 ?_);refine l_ld1j O_sPath rfl M.out (fun y h=>h.1.2) (by exact rfl) ?_)|((with_reducible refine l_st F_Ins M.out ?_);clear M;intro w' M;replace M:=hH M.out.freeze))
 replace M:=hH M.out.drew
 refine tbh (fun y=>(((Rdd y 7 A4 n4 xs∧Rdd y 2 A5 nw wc)∧Blk y g2 68 #[.slice B1 m1 d1,.slice B2 m2 d2,.slice B3 m3 d3,.slice A4 n4 c4,.slice A5 nw c5])∧Blk y g3 92 #[.int .i64 4,z1,z2,z3,.int .i64 op,.bool false,z6,z7,z8,.bool qa,.slice qA qn qc,z11,.int .i64 rk,.int .i64 rn,.string rs,z15,z16])∧Blk y g12 49 #[.int .i64 1,.int .i64 (nw:Int),.int .i64 op,.int .i64 rk,.int .i64 rn,.string rs,.int .i64 0]) M.out.now fun hS=>?_
 refine tk 0 rfl hS (y_ld F_M _ _ rfl _ _ (fun _ h=>h.1.1.2) rfl) ?_
 refine tk 1 rfl hS (y_ld F_Ins _ _ rfl _ _ (fun _ h=>h.2) rfl) ?_
 refine tkp 3 rfl hS ?_
 refine tkp 4 rfl hS ?_
 refine tk 5 rfl hS (y_ldm F_Path _ _ _ rfl _ _ (fun _ h=>h.1.2) _ rfl rfl) ?_
 refine tr [2] ?_
 refine rdy_call (rput_any B1 B2 B3 A4 A5 m1 d1 m2 d2 m3 d3 c4 nw c5 _ n4 xs (⟨1,nw,op,rk,rn,rs,0⟩) (by omega) h0 (M.out.now.1.1.1.1)) (i:=2) (op:=.call _) rfl (by go_simp) ?_
 rintro e w' ⟨Ax,cx,rfl,hrd,hfr,hb⟩;have Mn:=M.out.addRd hb hrd hfr;have HF1:=hH (hfr.le M.out.size);replace M:=hH Mn;clear Mn hb hrd hfr;refine⟨_,rfl,?_⟩;refine⟨M.out.now.1,tn ?_⟩
 refine tr [6] ?_
 refine rdy_call (rmeet_any B1 B2 B3 Ax A5 m1 d1 m2 d2 m3 d3 cx nw c5 _ (n4+1) wc qa qA qn qc (by omega) h1 (M.out.now.1.1.1.1.2)) (i:=6) (op:=.call _) rfl (by go_simp) ?_
 rintro e w' ⟨Ay,cy,rfl,hrd,hfr,hb⟩;have Mn:=M.out.addRd hb hrd hfr;have HF2:=hH (hfr.le M.out.size);replace M:=hH Mn;clear Mn hb hrd hfr;refine⟨_,rfl,?_⟩;refine⟨M.out.now.1.1,tn ?_⟩
 refine tr [7] ?_
 refine r_st F_M (i:=7) rfl rfl rfl M.out ?_
 clear M;intro w' M;refine an M.out.now.1.1 fun hS=>tn ?_
 refine te ?_
 go_wp2
 rw [←HQ.out]
 exact bodyPost_ret (results_1 Tryz.results41 _ _ g4 _ _ rfl (M.out.blk (g4,_,_) (by repeat constructor)) F_M rfl) rfl ⟨_,_,_,_,rfl,by have:=M.out.now.1.2;simpa using this,HF1.out,M.out.now.2,HF2.out,M.out.bel0⟩
theorem rexpr_cmpL (z1 z2 z3 z9 z10 z11 z12 z13 z14:Value)(k:Nat)(hk:k<6)(rk rn:Int)(rs:ByteArray)(qa:Bool)(qA:Option Addr)(qn qc:Nat):Calls Tryz.prog 41 #[.agg #[.slice B1 m1 d1,.slice B2 m2 d2,.slice B3 m3 d3,.slice A4 n4 c4,.slice A5 nw c5],.agg #[.int .i64 4,z1,z2,z3,.int .i64 (k:Int),.bool true,.int .i64 rk,.int .i64 rn,.string rs,z9,z10,z11,z12,z13,z14,.bool qa,.slice qA qn qc]] w (MoreP B1 B2 B3 m1 d1 m2 d2 m3 d3 n4 nw xs wc w [⟨1,nw,turnS k,rk,rn,rs,0⟩] 1 [.bool qa,.slice qA qn qc]):=by
 have hT:(#[.int .i64 0,.int .i64 1,.int .i64 4,.int .i64 5,.int .i64 2,.int .i64 3]:Array Value)[k]? = some (.int .i64 (turnS k)):=by
  match k,hk with
  | 0,_=>rfl
  | 1,_=>rfl
  | 2,_=>rfl
  | 3,_=>rfl
  | 4,_=>rfl
  | 5,_=>rfl
 have hkI:(k:Int)<6:=by omega
 have M:=hH (Own.start [] w (fun y=>Rdd y 7 A4 n4 xs∧Rdd y 2 A5 nw wc) fun y hy=>⟨h4.old hy,h5.old hy⟩)
 unfold MoreP
 clear h4 h5
 go_enter Tryz.func41, Tryz.ntmps41
 generalize hQ:bodyPost Tryz.prog Tryz.f41 _=Q
 have HQ:=hH hQ;clear hQ
 go_upto_region 27 with(first|(with_reducible (refine l_al (d:=4) F_M M.out ?_;clear M;intro g4 w' hg4 M))|((with_reducible refine l_bx (d:=2) M.out ?_);clear M;intro g2 w' hg2 M;replace M:=hH M.out.freeze)|((with_reducible refine l_bx (d:=3) M.out ?_);clear M;intro g3 w' hg3 M;replace M:=hH M.out.freeze)|((with_reducible refine g_ld 3 ?_);refine l_ld1j O_int rfl M.out (fun y h=>h.2) (by exact rfl) ?_)|((with_reducible refine g_ld 4 ?_);refine l_ld1j O_bool rfl M.out (fun y h=>h.2) (by exact rfl) ?_)|((with_reducible refine g_bs 123 103 ?_);refine l_bs SL_sint (cs:=#[.int .i64 0,.int .i64 1,.int .i64 4,.int .i64 5,.int .i64 2,.int .i64 3]) (by kernel_rfl) M.out ?_;clear M;intro g103 w' hg103 M;replace M:=hH M.out.freeze))
 replace M:=hH M.out.drew
 refine tbh (fun y=>(((Rdd y 7 A4 n4 xs∧Rdd y 2 A5 nw wc)∧Blk y g2 68 #[.slice B1 m1 d1,.slice B2 m2 d2,.slice B3 m3 d3,.slice A4 n4 c4,.slice A5 nw c5])∧Blk y g3 92 #[.int .i64 4,z1,z2,z3,.int .i64 (k:Int),.bool true,.int .i64 rk,.int .i64 rn,.string rs,z9,z10,z11,z12,z13,z14,.bool qa,.slice qA qn qc])∧Blk y g103 3 #[.int .i64 0,.int .i64 1,.int .i64 4,.int .i64 5,.int .i64 2,.int .i64 3]) M.out.now fun hS=>?_
 refine tkp 0 rfl hS ?_
 refine tk 1 rfl hS (y_ld1 O_sPath _ _ _ rfl _ _ (fun _ h=>h.1.1.2) _ rfl) ?_
 refine tkp 2 rfl hS ?_
 refine tkp 3 rfl hS ?_
 refine tkp 4 rfl hS ?_
 refine tk 5 rfl hS (y_ld1 O_int _ _ _ rfl _ _ (fun _ h=>h.1.2) _ rfl) ?_
 refine tkp 6 rfl hS ?_
 refine tk 7 rfl hS (y_ld1 O_int _ _ _ rfl _ _ (fun _ h=>h.2) _ hT) ?_
 refine tkp 8 rfl hS ?_
 refine tkp 9 rfl hS ?_
 refine tk 10 rfl hS (y_ld1 O_int _ _ _ rfl _ _ (fun _ h=>h.1.2) _ rfl) ?_
 refine tkp 11 rfl hS ?_
 refine tkp 12 rfl hS ?_
 refine tk 13 rfl hS (y_ld1 O_i64 _ _ _ rfl _ _ (fun _ h=>h.1.2) _ rfl) ?_
 refine tkp 14 rfl hS ?_
 refine tkp 15 rfl hS ?_
 refine tk 16 rfl hS (y_ld1 O_str _ _ _ rfl _ _ (fun _ h=>h.1.2) _ rfl) ?_
 refine tkp 17 rfl hS ?_
 refine tr [18] ?_
 refine r_al F_Ins (i:=18) rfl M.out ?_
 clear M;intro g11 w' hg11 M;refine an M.out.now fun hS=>tn ?_
 refine tr [19] ?_
 refine r_st F_Ins (i:=19) rfl rfl rfl M.out ?_
 clear M;intro w' M;refine an M.out.now fun hS=>tn ?_
 refine te ?_
 replace M:=hH M.out.freeze
 go_upto_region 28 with fail
 replace M:=hH M.out.drew
 refine tbh (fun y=>((((Rdd y 7 A4 n4 xs∧Rdd y 2 A5 nw wc)∧Blk y g2 68 #[.slice B1 m1 d1,.slice B2 m2 d2,.slice B3 m3 d3,.slice A4 n4 c4,.slice A5 nw c5])∧Blk y g3 92 #[.int .i64 4,z1,z2,z3,.int .i64 (k:Int),.bool true,.int .i64 rk,.int .i64 rn,.string rs,z9,z10,z11,z12,z13,z14,.bool qa,.slice qA qn qc])∧Blk y g103 3 #[.int .i64 0,.int .i64 1,.int .i64 4,.int .i64 5,.int .i64 2,.int .i64 3])∧Blk y g11 49 #[.int .i64 1,.int .i64 (nw:Int),.int .i64 (turnS k),.int .i64 rk,.int .i64 rn,.string rs,.int .i64 0]) M.out.now fun hS=>?_
 refine tk 0 rfl hS (y_ld F_M _ _ rfl _ _ (fun _ h=>h.1.1.1.2) rfl) ?_
 refine tk 1 rfl hS (y_ld F_Ins _ _ rfl _ _ (fun _ h=>h.2) rfl) ?_
 refine tkp 3 rfl hS ?_
 refine tkp 4 rfl hS ?_
 refine tk 5 rfl hS (y_ldm F_Path _ _ _ rfl _ _ (fun _ h=>h.1.1.2) _ rfl rfl) ?_
 refine tr [2] ?_
 refine rdy_call (rput_any B1 B2 B3 A4 A5 m1 d1 m2 d2 m3 d3 c4 nw c5 _ n4 xs (⟨1,nw,turnS k,rk,rn,rs,0⟩) (by omega) h0 (M.out.now.1.1.1.1.1)) (i:=2) (op:=.call _) rfl (by go_simp) ?_
 rintro e w' ⟨Ax,cx,rfl,hrd,hfr,hb⟩;have Mn:=M.out.addRd hb hrd hfr;have HF1:=hH (hfr.le M.out.size);replace M:=hH Mn;clear Mn hb hrd hfr;refine⟨_,rfl,?_⟩;refine⟨M.out.now.1,tn ?_⟩
 refine tr [6] ?_
 refine rdy_call (rmeet_any B1 B2 B3 Ax A5 m1 d1 m2 d2 m3 d3 cx nw c5 _ (n4+1) wc qa qA qn qc (by omega) h1 (M.out.now.1.1.1.1.1.2)) (i:=6) (op:=.call _) rfl (by go_simp) ?_
 rintro e w' ⟨Ay,cy,rfl,hrd,hfr,hb⟩;have Mn:=M.out.addRd hb hrd hfr;have HF2:=hH (hfr.le M.out.size);replace M:=hH Mn;clear Mn hb hrd hfr;refine⟨_,rfl,?_⟩;refine⟨M.out.now.1.1,tn ?_⟩
 refine tr [7] ?_
 refine r_st F_M (i:=7) rfl rfl rfl M.out ?_
 clear M;intro w' M;refine an M.out.now.1.1 fun hS=>tn ?_
 refine te ?_
 go_wp2
 rw [←HQ.out]
 exact bodyPost_ret (results_1 Tryz.results41 _ _ g4 _ _ rfl (M.out.blk (g4,_,_) (by repeat constructor)) F_M rfl) rfl ⟨_,_,_,_,rfl,by have:=M.out.now.1.2;simpa using this,HF1.out,M.out.now.2,HF2.out,M.out.bel0⟩
omit h1 hl hlw in
theorem rexpr_not (z2 z3 z4 z5 z6 z7 z8 z9 z10 z11 z12 z13 z14 z15 z16:Value)(b off qc:Nat)(kc:List Value)(hkc:kc.length=17)(hr:w.rangeAt b off kc)(hb:b<w.heap.size)(ls:List InsD)(nx:Nat)(wx:List Value)(hn:n4+ls.length≤999990)
  (hK:∀w',Bel w.heap.size w w'→Calls Tryz.prog 41 #[.agg #[.slice B1 m1 d1,.slice B2 m2 d2,.slice B3 m3 d3,.slice A4 n4 c4,.slice A5 nw c5],.agg kc.toArray] w' (MoreP B1 B2 B3 m1 d1 m2 d2 m3 d3 n4 nw xs wc w' ls nx wx)) :
  Calls Tryz.prog 41 #[.agg #[.slice B1 m1 d1,.slice B2 m2 d2,.slice B3 m3 d3,.slice A4 n4 c4,.slice A5 nw c5],.agg #[.int .i64 2,.slice (some ⟨b,off,none⟩) 1 qc,z2,z3,z4,z5,z6,z7,z8,z9,z10,z11,z12,z13,z14,z15,z16]] w (MoreP B1 B2 B3 m1 d1 m2 d2 m3 d3 n4 nw xs wc w (ls++[⟨2,0,0,0,0,⟨#[]⟩,0⟩]) nx wx):=by
 have M:=hH (Own.start [] w (fun y=>(Rdd y 7 A4 n4 xs∧Rdd y 2 A5 nw wc)∧y.rangeAt b off kc) fun y hy=>⟨⟨h4.old hy,h5.old hy⟩,fun j v hv=>(World.cell?_of_block (hy.2 b hb (by simp))).trans (hr j v hv)⟩)
 have h0':∀u∈xs++ls.flatMap insC,u.oneCell'=true:=fun u hu=>(List.mem_append.1 hu).elim (h0 u) (ins_one1 ls u)
 unfold MoreP at hK ⊢
 have HK:=hH hK
 clear h4 h5 hr hb h0 hK
 go_enter Tryz.func41, Tryz.ntmps41
 generalize hQ:bodyPost Tryz.prog Tryz.f41 _=Q
 have HQ:=hH hQ;clear hQ
 go_upto_region 22 with(first|(with_reducible (refine l_al (d:=4) F_M M.out ?_;clear M;intro g4 w' hg4 M))|((with_reducible refine l_bx (d:=2) M.out ?_);clear M;intro g2 w' hg2 M;replace M:=hH M.out.freeze)|((with_reducible refine l_bx (d:=3) M.out ?_);clear M;intro g3 w' hg3 M;replace M:=hH M.out.freeze)|((with_reducible refine g_ld 3 ?_);refine l_ld1j O_int rfl M.out (fun y h=>h.2) (by exact rfl) ?_))
 replace M:=hH M.out.drew
 refine tbh (fun y=>(((Rdd y 7 A4 n4 xs∧Rdd y 2 A5 nw wc)∧y.rangeAt b off kc)∧Blk y g2 68 #[.slice B1 m1 d1,.slice B2 m2 d2,.slice B3 m3 d3,.slice A4 n4 c4,.slice A5 nw c5])∧Blk y g3 92 #[.int .i64 2,.slice (some ⟨b,off,none⟩) 1 qc,z2,z3,z4,z5,z6,z7,z8,z9,z10,z11,z12,z13,z14,z15,z16]) M.out.now fun hS=>?_
 refine tk 0 rfl hS (y_ld F_M _ _ rfl _ _ (fun _ h=>h.1.2) rfl) ?_
 refine tkp 1 rfl hS ?_
 refine tk 2 rfl hS (y_ld1 O_sEx _ _ _ rfl _ _ (fun _ h=>h.2) _ rfl) ?_
 refine tkp 3 rfl hS ?_
 refine tk 4 rfl hS (y_ldf F_Ex _ _ _ rfl kc (fun _ h=>h.1.1.2) hkc) ?_
 refine tkp 6 rfl hS ?_
 refine tr [5] ?_
 refine rdy_call (HK.out _ M.out.bel0) (i:=5) (op:=.call _) rfl (by go_simp) ?_
 rintro e w' ⟨Ax,cx,Ay,cy,rfl,hr4,hf4,hr5,hf5,hb⟩;have Mn:=(M.out.addRd hb hr4 hf4).add (J':=fun y=>Rdd y 2 Ay (nw+nx) (wc++wx)) (fun y hy=>hr5.kept hy fun a e _ hm=>Nat.lt_irrefl _ (Nat.lt_of_lt_of_le (M.out.ex_lt hm) ((hf5 a e).1)));have HF1:=hH (hf4.le M.out.size);have HF2:=hH (hf5.le M.out.size);replace M:=hH Mn;clear Mn hb hr4 hf4 hr5 hf5;refine⟨_,rfl,?_⟩;refine⟨M.out.now.1.1,tn ?_⟩
 refine tr [7] ?_
 refine rdy_call (rput_any B1 B2 B3 Ax Ay m1 d1 m2 d2 m3 d3 cx (nw+nx) cy _ (n4+ls.length) (xs++ls.flatMap insC) ⟨2,0,0,0,0,⟨#[]⟩,0⟩ (by omega) h0' (M.out.now.1.2)) (i:=7) (op:=.call _) rfl (by go_simp) ?_
 rintro e w' ⟨Az,cz,rfl,hrd,hfr,hb⟩;have Mn:=M.out.addRd hb hrd hfr;have HF3:=hH (hfr.le M.out.size);replace M:=hH Mn;clear Mn hb hrd hfr;refine⟨_,rfl,?_⟩;refine⟨M.out.now.1.1.1,tn ?_⟩
 refine tr [8] ?_
 refine r_st F_M (i:=8) rfl rfl rfl M.out ?_
 clear M;intro w' M;refine an M.out.now.1.1.1 fun hS=>tn ?_
 refine te ?_
 go_wp2
 rw [←HQ.out]
 exact bodyPost_ret (results_1 Tryz.results41 _ _ g4 _ _ rfl (M.out.blk (g4,_,_) (by repeat constructor)) F_M rfl) rfl ⟨Az,cz,Ay,cy,by simp [Nat.add_assoc],by have:=M.out.now.2;simpa [Nat.add_assoc,insC] using this,HF3.out,M.out.now.1.2,HF2.out,M.out.bel0⟩
end
end
end

end Go.Proofs.YtjbdcjcfijjiiaaGreatDoor

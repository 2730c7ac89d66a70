/- NG18: Za, Zb joined. -/
import Derived.Test.YtjbdcjcfijjiiaaGreatDoorNG17
namespace Go.Proofs.YtjbdcjcfijjiiaaGreatDoor
open Go.RowKit
/- code: the maker in memory; put, number (printed by gen_za.py). -/
section
open Go.RowKit
set_option maxRecDepth 100000
set_option maxHeartbeats 2000000
section
variable  {X:List Nat}{w0 w w':World}{L L':List BlkE}{rs rs':List RowE}{J:World→Prop}
theorem Own.permL (M:Own X w0 w L rs J)(h:L.Perm L'):Own X w0 w L' rs J:=by
 have hp:(exO L rs).Perm (exO L' rs):=(h.map _).append_right _
 exact⟨M.os,M.output,M.size,M.out,fun x hx=>M.low x (h.mem_iff.2 hx),fun x hx=>M.blk x (h.mem_iff.2 hx),M.row,hp.nodup_iff.1 M.nodup,fun y hy=>M.always y ⟨hy.1,fun b h1 h2=>hy.2 b h1 fun h=>h2 (hp.mem_iff.2 h)⟩⟩
theorem Own.permR (M:Own X w0 w L rs J)(h:rs.Perm rs'):Own X w0 w L rs' J:=by
 have hp:(exO L rs).Perm (exO L rs'):=(h.filterMap _).append_left _
 exact⟨M.os,M.output,M.size,M.out,M.low,M.blk,fun r hr=>M.row r (h.mem_iff.2 hr),hp.nodup_iff.1 M.nodup,fun y hy=>M.always y ⟨hy.1,fun b h1 h2=>hy.2 b h1 fun h=>h2 (hp.mem_iff.2 h)⟩⟩
theorem Own.rowSet {gr c k n j:Nat}{T:TypeId}{xs:List Value}{u:Value}(M:Own X w0 w L rs J)(hr:UpdR (.slice (some ⟨gr,0,none⟩) n c,T,k,n,xs) (.slice (some ⟨gr,0,none⟩) n c,T,k,n,xs.set j u) rs rs')(hj:j<n*k) :
  (∃v,w.cell? ⟨gr,j,none⟩=some v)∧w.frozen? ⟨gr,j,none⟩=false∧Own X w0 (w.setCell ⟨gr,j,none⟩ u) L rs' J:=by
 obtain⟨A,B,h1,h2⟩:=hr.split
 have hrow:=M.row (.slice (some ⟨gr,0,none⟩) n c,T,k,n,xs) (by rw [h1];simp)
 rcases hrow.2 with⟨h,_⟩|⟨g',cap,cur,h,hb,hg,hle,hm,hcs,ht⟩
 ·cases h
 ·simp only [Value.slice.injEq,Option.some.injEq,Addr.mk.injEq,and_true,true_and] at h
  obtain⟨rfl,rfl⟩:=h
  have hbk:Blk w gr T cur:=hg
  have hcur:n*k≤cur.size:=by rw [hcs];exact Nat.mul_le_mul_right k hle
  refine⟨⟨_,(hbk.cell j).trans (Array.getElem?_eq_getElem (by omega))⟩,hbk.frozen j,M.grow hr ⟨by rw [List.length_set];exact hrow.1,.inr ⟨gr,c,cur.setIfInBounds j u,rfl,hb,hbk.set_ j u,hle,hm,by simpa using hcs,?_⟩⟩ ⟨rfl,rfl,rfl,by simp,fun b _ hne=>Below.heap_setCell w ⟨gr,j,none⟩ u b (by intro e;exact hne (by rw [e];rfl))⟩ (.inl rfl)⟩
  have ht':cur.toList.take (n*k)=xs:=ht
  rw [←ht']
  simp only [Array.toList_setIfInBounds]
  exact List.take_set ..
variable  {P:Program}{S:World→Prop}{ops:Array Oper}{rest:List Oper}{a:Act}{Q:Exit→Act→World→Prop}{K:Act→World→Prop}{md:Region.Mode}{fuel i:Nat}{listed:Array Bool}{is:List Nat}{dst:Option Tmp}{tt:TypeId}{pos:String}{af:Array Edge}
theorem o_st1r {T T':TypeId}(F:OneF P T){x y:Operand}{gr c k n j:Nat}{xs:List Value}{v:Value}(hx:a.eval x=.pointer (some ⟨gr,j,none⟩))(hy:a.eval y=v)(h1:v.oneCell'=true)(M:Own X w0 w L rs J)(hm:UpdR (.slice (some ⟨gr,0,none⟩) n c,T',k,n,xs) (.slice (some ⟨gr,0,none⟩) n c,T',k,n,xs.set j v) rs rs')(hj:j<n*k)
  (h:∀w',Own X w0 w' L rs' J→K (a.put dst undef) w'):Oper.wp P ⟨dst,.store T x y,tt,pos,af,none⟩ a w K Q:=by
 subst hy
 obtain⟨h2,h3,M'⟩:=M.rowSet hm hj
 unfold Oper.wp execOp
 simp only [hx,Instr.storeAt,Instr.sureAddr,Sem.run_bind,Sem.run_pure,Result.andThen_ok,run_store1 (P:=P) gr j T _ h1 h2 h3 F.s]
 exact h _ M'
theorem r_st1r {T T':TypeId}(F:OneF P T){x y:Operand}(ho:ops[i]? = some ⟨dst,.store T x y,tt,pos,af,none⟩){gr c k n j:Nat}{xs:List Value}{v:Value}(hx:a.eval x=.pointer (some ⟨gr,j,none⟩))(hy:a.eval y=v)(M:Own X w0 w L rs J)(hj:j<n*k)
  (h:∀w',Hid (Own X w0 w' L rs' J)→S w'∧wpAnyH P md ops Q S fuel (listed.setIfInBounds i true) (a.put dst undef) w') (hs:AllReadyH P md ops Q S fuel listed a w is:=by exact .nil) (h1:v.oneCell'=true:=by exact rfl) (hm:UpdR (.slice (some ⟨gr,0,none⟩) n c,T',k,n,xs) (.slice (some ⟨gr,0,none⟩) n c,T',k,n,xs.set j v) rs rs':=by repeat constructor):AllReadyH P md ops Q S fuel listed a w (i::is) :=
 rdy ho (fun _ hK=>o_st1r F hx hy h1 M hm hj fun w' M=>hK.out _ _ (h w' (hH M)).1 fun _=>(h w' (hH M)).2) hs
end
def MkR (v1 v2 v3 v4 v5:Value)(c:CodeD)(W:List (PathT×Value))(rs:List RowE):List RowE :=
 (v1,43,3,c.ps.length,c.ps.flatMap pathC)::(v2,45,3,c.gs.length,c.gs.flatMap segC)::(v3,47,8,c.ss.length,c.ss.flatMap selC)::(v4,49,7,c.is.length,c.is.flatMap insC)::(v5,37,2,W.length,W.flatMap wC)::rs
def MkS (w0 w:World)(g:Nat)(L:List BlkE)(rs:List RowE)(J:World→Prop)(c:CodeD)(W:List (PathT×Value)):Prop :=
 ∃v1 v2 v3 v4 v5,Own [] w0 w ((g,61,#[v1,v2,v3,v4,v5])::L) (MkR v1 v2 v3 v4 v5 c W rs) J
section
variable  {w0:World}{L:List BlkE}{rs:List RowE}{J:World→Prop}
theorem mput_any (g:Nat)(c:CodeD)(W:List (PathT×Value))(x:InsD)(w:World)(h:MkS w0 w g L rs J c W)(hl:c.is.length≤999999):Calls Tryz.prog 33 #[.pointer (some ⟨g,0,none⟩),.agg #[.int .i64 x.op,.int .i64 x.p,.int .i64 x.sign,.int .i64 x.kind,.int .i64 x.n,.string x.s,.int .i64 x.tt]] w fun e w'=>e=.returned (.int .i64 (c.is.length:Int))∧MkS w0 w' g L rs J ⟨c.ps,c.gs,c.ss,c.is++[x]⟩ W:=by
 obtain⟨v1,v2,v3,v4,v5,hM⟩:=h
 unfold MkR at hM
 have M:=hH hM
 clear hM
 go_enter Tryz.func33, Tryz.ntmps33
 go_upto_region 1 with(first|((with_reducible refine l_bx (d:=3) M.out ?_);clear M;intro g3 w' hg3 M;replace M:=hH M.out.freeze))
 replace M:=hH M.out.drew
 refine tbh (fun y=>J y∧Blk y g3 49 #[.int .i64 x.op,.int .i64 x.p,.int .i64 x.sign,.int .i64 x.kind,.int .i64 x.n,.string x.s,.int .i64 x.tt]) M.out.now fun hS=>?_
 refine tkp 0 rfl hS ?_
 refine tkp 1 rfl hS ?_
 refine tkp 2 rfl hS ?_
 refine tkp 3 rfl hS ?_
 refine tkp 4 rfl hS ?_
 refine tk 6 rfl hS (y_ld F_Ins _ _ rfl _ _ (fun _ h=>h.2) rfl) ?_
 repeat' (first|((with_reducible refine gR ?_);first|exact .nil|(refine r_ld1 O_sIns (i:=5) rfl rfl M.out ?_ ?_;refine⟨M.out.now,tn ?_⟩)|(refine r_bs SL_sIns (i:=7) rfl (cs:=#[.int .i64 x.op,.int .i64 x.p,.int .i64 x.sign,.int .i64 x.kind,.int .i64 x.n,.string x.s,.int .i64 x.tt]) M.out ?_ ?_;clear M;intro gb w' hgb M;refine⟨M.out.now,tn ?_⟩)|(refine r_apB SL_sIns (i:=8) rfl rfl M.out ?_ ?_;intro vn w' Mn;replace Mn:=Mn _ (by repeat constructor);replace M:=hH Mn;clear Mn;obtain⟨An,cn,hvn,-⟩:=own_reads (M.out.row (vn,_) (by repeat constructor));simp only at hvn;subst hvn;refine⟨M.out.now,tn ?_⟩)|(refine r_st1 O_sIns (v:=.slice An (c.is.length+1) cn) (i:=12) rfl rfl rfl M.out ?_ ?_;clear M;intro w' M;refine⟨M.out.now,tn ?_⟩))|((with_reducible refine gW ?_);first|refine tkpd 9 rfl M.out.now ?_|refine tkpd 10 rfl M.out.now ?_|refine tkpd 11 rfl M.out.now ?_|refine trd [5,7] ?_|refine trd [7] ?_|refine trd [8] ?_|refine trd [12] ?_|refine trd [5] ?_|refine ted ?_))
 all_goals
  replace M:=hH (M.out.freeze.imp (J':=J) fun y h=>h.1.1)
  go_wp2_with (first|(with_reducible refine l_ld1 O_sIns M.out ?_))
  go_ret
  exact⟨by first|rfl|simp|go_num,v1,v2,v3,(.slice An (c.is.length+1) cn),v5,by have h:=M.out;unfold MkR;simpa [insC] using h⟩
theorem mnumber_any (g:Nat)(c:CodeD)(W:List (PathT×Value))(p:PathT)(A:Option Addr)(m cp:Nat)(w:World)(h:MkS w0 w g L rs J c W)(hl:W.length≤999999):Calls Tryz.prog 48 #[.pointer (some ⟨g,0,none⟩),.agg #[.bool p.abs,.slice A m cp]] w fun e w'=>e=.returned (.int .i64 (W.length:Int))∧MkS w0 w' g L rs J c (W++[(p,.slice A m cp)]):=by
 obtain⟨v1,v2,v3,v4,v5,hM⟩:=h
 unfold MkR at hM
 have M:=hH hM
 clear hM
 go_enter Tryz.func48, Tryz.ntmps48
 go_upto_region 1 with(first|((with_reducible refine l_bx (d:=3) M.out ?_);clear M;intro g3 w' hg3 M;replace M:=hH M.out.freeze))
 replace M:=hH M.out.drew
 refine tbh (fun y=>J y∧Blk y g3 37 #[.bool p.abs,.slice A m cp]) M.out.now fun hS=>?_
 refine tkp 0 rfl hS ?_
 refine tkp 1 rfl hS ?_
 refine tkp 2 rfl hS ?_
 refine tkp 3 rfl hS ?_
 refine tk 5 rfl hS (y_ld F_Path _ _ rfl _ _ (fun _ h=>h.2) rfl) ?_
 repeat' (first|((with_reducible refine gR ?_);first|exact .nil|(refine r_ld1 O_sPath (i:=4) rfl rfl M.out ?_ ?_;refine⟨M.out.now,tn ?_⟩)|(refine r_bs SL_sPath (i:=6) rfl (cs:=#[.bool p.abs,.slice A m cp]) M.out ?_ ?_;clear M;intro gb w' hgb M;refine⟨M.out.now,tn ?_⟩)|(refine r_apB SL_sPath (i:=7) rfl rfl M.out ?_ ?_;intro vn w' Mn;replace Mn:=Mn _ (by repeat constructor);replace M:=hH Mn;clear Mn;obtain⟨An,cn,hvn,-⟩:=own_reads (M.out.row (vn,_) (by repeat constructor));simp only at hvn;subst hvn;refine⟨M.out.now,tn ?_⟩)|(refine r_st1 O_sPath (v:=.slice An (W.length+1) cn) (i:=10) rfl rfl rfl M.out ?_ ?_;clear M;intro w' M;refine⟨M.out.now,tn ?_⟩))|((with_reducible refine gW ?_);first|refine tkpd 8 rfl M.out.now ?_|refine tkpd 9 rfl M.out.now ?_|refine trd [4,6] ?_|refine trd [6] ?_|refine trd [7] ?_|refine trd [10] ?_|refine trd [4] ?_|refine ted ?_))
 all_goals
  replace M:=hH (M.out.freeze.imp (J':=J) fun y h=>h.1.1)
  go_wp2_with (first|(with_reducible refine l_ld1 O_sPath M.out ?_))
  go_ret
  exact⟨by first|rfl|simp|go_num,v1,v2,v3,v4,(.slice An (W.length+1) cn),by have h:=M.out;unfold MkR;simpa [wC] using h⟩
theorem MkS.now {w:World}{g:Nat}{c:CodeD}{W:List (PathT×Value)}(h:MkS w0 w g L rs J c W):J w:=by
 obtain⟨v1,v2,v3,v4,v5,M⟩:=h
 exact M.now
theorem MkS.bel0 {w:World}{g:Nat}{c:CodeD}{W:List (PathT×Value)}(h:MkS w0 w g L rs J c W):Bel w0.heap.size w0 w:=by
 obtain⟨v1,v2,v3,v4,v5,M⟩:=h
 exact M.bel0
theorem MkS.drew {w:World}{g:Nat}{c:CodeD}{W:List (PathT×Value)}(h:MkS w0 w g L rs J c W):MkS w0 w.drew g L rs J c W:=by
 obtain⟨v1,v2,v3,v4,v5,M⟩:=h
 exact⟨v1,v2,v3,v4,v5,M.drew⟩
theorem MkS.imp {J':World→Prop}{w:World}{g:Nat}{c:CodeD}{W:List (PathT×Value)}(h:MkS w0 w g L rs J c W)(hJ:∀y,J y→J' y):MkS w0 w g L rs J' c W:=by
 obtain⟨v1,v2,v3,v4,v5,M⟩:=h
 exact⟨v1,v2,v3,v4,v5,M.imp hJ⟩
theorem own_slice {w:World}{base k n:Nat}{e:TypeId}{v:Value}{xs:List Value}(h:w.ownsRow base e k v n xs)(hn:0<n):∃gr c,v=.slice (some ⟨gr,0,none⟩) n c∧n≤c∧c≤maxLen:=by
 rcases h.2 with⟨_,h0⟩|⟨g,cap,cur,h1,_,_,h4,h5,_⟩
 ·omega
 ·exact⟨g,cap,h1,h4,h5⟩
theorem MkS.freeze {w:World}{g:Nat}{c:CodeD}{W:List (PathT×Value)}{v:Value}{T:TypeId}{k n:Nat}{xs:List Value}(h:MkS w0 w g L ((v,T,k,n,xs)::rs) J c W):∃A c',v=.slice A n c'∧(∀a,A=some a→∃b,a=⟨b,0,none⟩)∧(n≤c'∧c'≤maxLen)∧MkS w0 w g L rs (fun y=>J y∧Rdd y k A n xs) c W:=by
 obtain⟨v1,v2,v3,v4,v5,M⟩:=h
 have M1:=M.permR (rs':=(v,T,k,n,xs)::MkR v1 v2 v3 v4 v5 c W rs) (by unfold MkR;exact List.perm_middle (l₁:=[_,_,_,_,_]))
 obtain⟨A,c',hv,hc,_,M2⟩:=M1.freezeRow
 exact⟨A,c',hv,row_form (M1.row _ List.mem_cons_self) hv,hc,v1,v2,v3,v4,v5,M2⟩
theorem l_ldb {P:Program}{w:World}{ops:Array Oper}{rest:List Oper}{a:Act}{Q:Exit→Act→World→Prop}{dst:Option Tmp}{tt:TypeId}{pos:String}{af:Array Edge}{T:TypeId}{n:Nat}{z:Array Value}(F:TyF P T n z){x:Operand}{g:Nat}{T':TypeId}{cs:Array Value}(hx:a.eval x=.pointer (some ⟨g,0,none⟩))(hb:Blk w g T' cs)(hn:cs.size=n)
  (h:wpList P ops Q rest (a.put dst (.agg cs)) w):wpList P ops Q (⟨dst,.load T x,tt,pos,af,none⟩::rest) a w:=by
 obtain⟨d,hu,hd⟩:=F.u
 exact wpList_load_row rfl T x rfl g hx T' cs (0,0) d hb hu (by cases d <;> first|rfl|cases hd) (by rw [hn];exact F.s) h
end
end
/- code: many (printed by gen_zb.py). -/
section
open Go.RowKit
set_option maxRecDepth 100000
set_option maxHeartbeats 2000000
def KidM (w0:World)(n:Nat)(d:KidD):Prop :=
 ∀(w:World) (g:Nat) (L:List BlkE) (rs:List RowE) (J:World→Prop) (c:CodeD) (W:List (PathT×Value)),MkS w0 w g L rs J c W→c.is.length+lenN n d.x≤999990→W.length+d.W.length≤999990→
  Calls Tryz.prog 32 #[.pointer (some ⟨g,0,none⟩),.agg d.kc.toArray] w fun e w'=>e=.returned (.tuple #[])∧MkS w0 w' g L rs J ⟨c.ps,c.gs,c.ss,c.is++insN n c.is.length W.length d.x⟩ (W++d.W)
structure KidsM (w0:World)(n:Nat)(b off:Nat)(D:List KidD):Prop where
 lt:b<w0.heap.size
 kc:∀(i:Nat) (d:KidD),D[i]? = some d→d.kc.length=17∧w0.rangeAt b (off+i*17) d.kc∧allOne d.kc=true
 call:∀d∈D,KidM w0 n d
 len:∀d∈D,(∀a b,(insN n a b d.x).length=lenN n d.x)∧1≤lenN n d.x∧d.W.length=(waitN n d.x).length
def insO (n:Nat)(op:Int)(E a b:Nat)(l:List ExprT):List InsD:=insK (insN n) (lenN n) (fun y=>(waitN n y).length) op E a b l
section
variable  {w0:World}{L:List BlkE}{rs:List RowE}{J:World→Prop}
theorem MkS.row {w:World}{g:Nat}{c:CodeD}{W:List (PathT×Value)}(h:MkS w0 w g L rs J c W)(T:TypeId)(k:Nat):MkS w0 w g L ((.slice none 0 0,T,k,0,[])::rs) J c W:=by
 obtain⟨v1,v2,v3,v4,v5,M⟩:=h
 refine⟨v1,v2,v3,v4,v5,(M.rowNil T k).permR ?_⟩
 unfold MkR
 exact(List.perm_middle (l₁:=[_,_,_,_,_])).symm
theorem flat_set {α:Type}(f:α→List Value)(k:Nat)(hk:∀x,(f x).length=k)(j:Nat)(hj:j<k)(u:Value)(y':α):∀(l:List α) (p:Nat) (y:α),l[p]? = some y→(f y).set j u=f y'→(l.flatMap f).set (p*k+j) u=(l.set p y').flatMap f
 | [],p,y,h,_=>by simp at h
 | x::l,0,y,h,he=>by
  obtain rfl:x=y:=by simpa using h
  rw [Nat.zero_mul,Nat.zero_add,List.flatMap_cons,List.set_append_left _ _ (by rw [hk];exact hj),he,List.set_cons_zero,List.flatMap_cons]
 | x::l,p+1,y,h,he=>by
  rw [List.flatMap_cons,List.set_append_right _ _ (by rw [hk,Nat.add_mul];omega),hk,show (p+1)*k+j-k=p*k+j by rw [Nat.add_mul];omega,flat_set f k hk j hj u y' l p y (by simpa using h) he,List.set_cons_succ,List.flatMap_cons]
theorem nWD_app (a b:List KidD):nWD (a++b)=nWD a+nWD b:=by unfold nWD;rw [List.map_append,List.sum_append]
theorem ksD_app (a b:List KidD):ksD (a++b)=ksD a++ksD b:=by unfold ksD;rw [List.map_append]
theorem insO_len {n:Nat}{op:Int}{E a b:Nat}{D:List KidD}(h:∀d∈D,∀a b,(insN n a b d.x).length=lenN n d.x):(insO n op E a b (ksD D)).length=lenK (lenN n) (ksD D) :=
 insK_len _ _ _ fun k hk=>by
  obtain⟨d,hd,rfl⟩:=List.mem_map.1 hk
  exact h d hd
theorem insO_snoc {n:Nat}{op:Int}{E a b:Nat}{Pd:List KidD}{d:KidD}(h:Pd≠[])(hW:∀d∈Pd,d.W.length=(waitN n d.x).length):insO n op E a b (ksD (Pd++[d]))=insO n op E a b (ksD Pd)++⟨op,0,0,0,0,⟨#[]⟩,E⟩::insN n (a+lenK (lenN n) (ksD Pd)+1) (b+nWD Pd) d.x:=by
 rw [ksD_app]
 unfold insO
 rw [show ksD [d]=[d.x] from rfl,insK_snoc (ksD Pd) d.x a b (by intro e;exact h (by unfold ksD at e;simpa using e)),nWD_eq hW]
 rfl
theorem mmany_any (g:Nat)(c:CodeD)(W:List (PathT×Value))(n b off cp:Nat)(D:List KidD)(op:Int)(hD:2≤D.length)(hK:KidsM w0 n b off D)(w:World)(h:MkS w0 w g L rs J c W)(hl:c.is.length+lenK (lenN n) (ksD D)≤999990)(hlw:W.length+nWD D≤999990)(hD2:D.length≤999990) :
  Calls Tryz.prog 47 #[.pointer (some ⟨g,0,none⟩),.slice (some ⟨b,off,none⟩) D.length cp,.int .i64 op] w fun e w'=>e=.returned (.tuple #[])∧MkS w0 w' g L rs J ⟨c.ps,c.gs,c.ss,c.is++insO n op (c.is.length+lenK (lenN n) (ksD D)) c.is.length W.length (ksD D)⟩ (W++D.flatMap (·.W)):=by
 have M:=hH (h.row 3 1)
 have HK:=hH hK
 have HL:=hH hl
 have HLW:=hH hlw
 obtain⟨E,hE⟩:∃E,c.is.length+lenK (lenN n) (ksD D)=E:=⟨_,rfl⟩
 rw [hE]
 have HE:=hH hE
 clear h hK hl hlw hE
 go_enter Tryz.func47, Tryz.ntmps47
 go_wp2
 go_loopg [6,13] D.length (fun gk v6 kv wr=>∃(Pd Rd:List KidD),gk=Rd.length∧Hid (D=Pd++Rd)∧kv=.int .i64 (Pd.length:Nat)∧Hid (MkS w0 wr g L ((v6,3,1,(posK (lenN n) c.is.length (ksD Pd)).length,posV (lenN n) c.is.length (ksD Pd))::rs) J ⟨c.ps,c.gs,c.ss,c.is++insO n op 0 c.is.length W.length (ksD Pd)⟩ (W++Pd.flatMap (·.W))))
 case atStart=>exact⟨[],D,rfl,hH rfl,rfl,by simpa [insO,insK,ksD,posV,posK] using M⟩
 case round =>
  clear M
  obtain⟨Pd,Rd0,hgk,HD,rfl,M⟩:=hrel
  have HGK:=hH hgk
  cases Rd0 with
  | cons dk Rd =>
   have HI:=hH (show D[Pd.length]? = some dk from by rw [HD.out,List.getElem?_append_right (Nat.le_refl _),Nat.sub_self];rfl)
   have hmem:dk∈D:=List.mem_of_getElem? HI.out
   have hltn:Pd.length<D.length:=(List.getElem?_eq_some_iff.1 HI.out).1
   have hlt:(Pd.length:Int)<(D.length:Int):=by omega
   obtain⟨hkc,hra,hone⟩:=HK.out.kc _ _ HI.out
   have HKC:=hH (HK.out.call dk hmem)
   unfold KidM at HKC
   have HKN:=hH hkc
   have HON:=hH (show allOne dk.kc.toArray.toList=true from by simpa using hone)
   have HRA:=hH hra
   have HPL:=hH (show ∀d∈Pd,(∀a b,(insN n a b d.x).length=lenN n d.x)∧1≤lenN n d.x∧d.W.length=(waitN n d.x).length from fun d hd=>HK.out.len d (by rw [HD.out];simp [hd]))
   have HIL:=hH (show (insO n op 0 c.is.length W.length (ksD Pd)).length=lenK (lenN n) (ksD Pd) from insO_len fun d hd=>(HPL.out d hd).1)
   have HWL:=hH (show (W++Pd.flatMap (·.W)).length=W.length+nWD Pd from by rw [List.length_append,nWD_len])
   have hb1:=lenK_app_le (L:=lenN n) (ksD (Pd++[dk])) (ksD Rd)
   have hb2:nWD Pd+dk.W.length≤nWD D:=by
    rw [HD.out,nWD_app];unfold nWD;simp
   rw [←ksD_app,List.append_assoc,List.singleton_append,←HD.out] at hb1
   have HB5:=hH (show c.is.length+lenK (lenN n) (ksD (Pd++[dk]))≤999990 from by have:=HL.out;omega)
   clear hkc hra hone hb1
   obtain⟨v1,v2,v3,v4,v5,hM⟩:=M.out;unfold MkR at hM;replace M:=hH hM;clear hM
   go_upto_region 4 with(first|(with_reducible (refine l_al (d:=8) F_Ex M.out ?_;clear M;intro g8 w' hg8 M))|((with_reducible refine g_ld 92 ?_);refine l_ldf F_Ex rfl (fun j v hv=>(World.cell?_of_block (M.out.bel0.block b HK.out.lt)).trans (HRA.out j v hv)) HKN.out ?_)|((with_reducible refine l_st F_Ex M.out (hn:=(by simpa using HKN.out)) (h1:=HON.out) ?_);clear M;intro w' M;replace M:=hH M.out.freeze))
   by_cases hPd:Pd=[]
   ·subst hPd
    have HB2:=hH (show (c.is++insO n op 0 c.is.length W.length (ksD [])).length+lenN n dk.x≤999990 from by
     rw [List.length_append,HIL.out];have:=HB5.out;simpa [ksD,lenK] using this)
    have HB3:=hH (show (W++[].flatMap fun (d:KidD)=>d.W).length+dk.W.length≤999990 from by
     rw [HWL.out];have:=HLW.out;omega)
    replace M:=hH (show MkS w0 _ g L _ _ ⟨c.ps,c.gs,c.ss,c.is++insO n op 0 c.is.length W.length (ksD [])⟩ (W++([]:List KidD).flatMap (·.W)) from⟨v1,v2,v3,v4,v5,M.out⟩)
    have hn0:¬(0:Int)<(([]:List KidD).length:Int):=by simp
    go_wp2_with (first|((with_reducible refine g_ld 92 ?_);refine l_ldb F_Ex rfl (M.out.now.2) (by simpa using HKN.out) ?_)|(go_at_call 32;(with_reducible refine(HKC.out _ g L _ _ _ _ M.out HB2.out HB3.out).mono ?_);rintro e w' ⟨rfl,hm⟩;replace M:=hH hm;clear hm))
    go_roundg Rd.length
    case measure=>rw [HGK.out];simp
    case rel=>exact⟨[dk],Rd,rfl,HD,by simp,hH (by
      have h:=M.out.imp (J':=J) fun y h=>h.1
      simpa [ksD,insO,insK,lenK,posV,posK] using h)⟩
   ·have hpl:(0:Int)<(Pd.length:Int):=by have:=List.length_pos_iff.2 hPd;omega
    have hkp:ksD Pd≠[]:=fun e=>hPd (by unfold ksD at e;simpa using e)
    have HSN:=hH (lenK_snoc (L:=lenN n) (ksD Pd) dk.x hkp)
    have hkd:ksD (Pd++[dk])=ksD Pd++[dk.x]:=by rw [ksD_app];rfl
    have HB1:=hH (show (c.is++insO n op 0 c.is.length W.length (ksD Pd)).length≤999999 from by
     rw [List.length_append,HIL.out];have:=HB5.out;rw [hkd,HSN.out] at this;omega)
    have HLO:=hH (show (c.is++insO n op 0 c.is.length W.length (ksD Pd)).length=c.is.length+lenK (lenN n) (ksD Pd) from by rw [List.length_append,HIL.out])
    have HB2:=hH (show (c.is++insO n op 0 c.is.length W.length (ksD Pd)++[(⟨op,0,0,0,0,⟨#[]⟩,0⟩:InsD)]).length+lenN n dk.x≤999990 from by
     rw [List.length_append,HLO.out,List.length_singleton];have:=HB5.out;rw [hkd,HSN.out] at this;omega)
    have HB3:=hH (show (W++Pd.flatMap fun (d:KidD)=>d.W).length+dk.W.length≤999990 from by
     rw [HWL.out];have:=HLW.out;omega)
    have HEQ:=hH (show c.is++insO n op 0 c.is.length W.length (ksD Pd)++[(⟨op,0,0,0,0,⟨#[]⟩,0⟩:InsD)]++insN n (c.is++insO n op 0 c.is.length W.length (ksD Pd)++[(⟨op,0,0,0,0,⟨#[]⟩,0⟩:InsD)]).length (W++Pd.flatMap fun (d:KidD)=>d.W).length dk.x=c.is++insO n op 0 c.is.length W.length (ksD (Pd++[dk])) from by
     rw [List.length_append,HLO.out,HWL.out,insO_snoc hPd fun d hd=>(HPL.out d hd).2.2,List.length_singleton,List.append_assoc,List.append_assoc];rfl)
    have HPS:=hH (show posV (lenN n) c.is.length (ksD (Pd++[dk]))=posV (lenN n) c.is.length (ksD Pd)++[.int .i64 ((c.is.length+lenK (lenN n) (ksD Pd):Nat):Int)]∧(posK (lenN n) c.is.length (ksD (Pd++[dk]))).length=(posK (lenN n) c.is.length (ksD Pd)).length+1 from by
     rw [hkd];unfold posV;rw [posK_snoc _ _ _ hkp];simp)
    have hpk:=posK_len (L:=lenN n) (ksD Pd) c.is.length
    have hkl:(ksD Pd).length=Pd.length:=by unfold ksD;rw [List.length_map]
    obtain⟨PP,hPP⟩:∃PP,c.is.length+lenK (lenN n) (ksD Pd)=PP:=⟨_,rfl⟩
    have HPT:=hH (fun (wz:World) (hm:MkS w0 wz g L ((u6,3,1,(posK (lenN n) c.is.length (ksD Pd)).length,posV (lenN n) c.is.length (ksD Pd))::rs) (fun y=>J y∧Blk y g8 92 dk.kc.toArray) ⟨c.ps,c.gs,c.ss,c.is++insO n op 0 c.is.length W.length (ksD Pd)⟩ (W++Pd.flatMap (·.W)))=>show Calls Tryz.prog 33 #[.pointer (some ⟨g,0,none⟩),.agg #[.int .i64 op,.int .i64 0,.int .i64 0,.int .i64 0,.int .i64 0,.string ⟨#[]⟩,.int .i64 0]] wz fun e w'=>e=.returned (.int .i64 (PP:Int))∧MkS w0 w' g L ((u6,3,1,(posK (lenN n) c.is.length (ksD Pd)).length,posV (lenN n) c.is.length (ksD Pd))::rs) (fun y=>J y∧Blk y g8 92 dk.kc.toArray) ⟨c.ps,c.gs,c.ss,c.is++insO n op 0 c.is.length W.length (ksD Pd)++[(⟨op,0,0,0,0,⟨#[]⟩,0⟩:InsD)]⟩ (W++Pd.flatMap (·.W)) from by
     have:=mput_any g _ _ ⟨op,0,0,0,0,⟨#[]⟩,0⟩ _ hm HB1.out
     simp only [HLO.out,hPP] at this
     exact this)
    rw [hPP] at HPS
    clear hkp hkd
    replace M:=hH (show MkS w0 _ g L _ _ ⟨c.ps,c.gs,c.ss,c.is++insO n op 0 c.is.length W.length (ksD Pd)⟩ (W++Pd.flatMap (·.W)) from⟨v1,v2,v3,v4,v5,M.out⟩)
    go_upto_region 6 with(first|(go_at_call 33;(with_reducible refine(HPT.out _ M.out).mono ?_);rintro e w' ⟨rfl,hm⟩;obtain⟨v1,v2,v3,v4,v5,hM⟩:=hm;unfold MkR at hM;replace M:=hH hM;clear hM)|((with_reducible refine g_bs 123 25 ?_);refine l_bs SL_sint (cs:=#[.int .i64 (PP:Int)]) (by kernel_rfl) M.out ?_;clear M;intro g25 w' hg25 M)|((with_reducible refine g_ap 123 26 ?_);refine l_apB SL_sint rfl rfl M.out ?_;intro v26 w' Mn;replace Mn:=Mn _ (by repeat constructor);replace M:=hH Mn;clear Mn))
    replace M:=hH (M.out.freeze.imp (J':=fun y=>J y∧Blk y g8 92 dk.kc.toArray) fun y h=>h.1)
    replace M:=hH (show MkS w0 _ g L _ _ ⟨c.ps,c.gs,c.ss,c.is++insO n op 0 c.is.length W.length (ksD Pd)++[(⟨op,0,0,0,0,⟨#[]⟩,0⟩:InsD)]⟩ (W++Pd.flatMap (·.W)) from⟨v1,v2,v3,v4,v5,M.out⟩)
    go_wp2_with (first|((with_reducible refine g_ld 92 ?_);refine l_ldb F_Ex rfl (M.out.now.2) (by simpa using HKN.out) ?_)|(go_at_call 32;(with_reducible refine(HKC.out _ g L _ _ _ _ M.out HB2.out HB3.out).mono ?_);rintro e w' ⟨rfl,hm⟩;replace M:=hH hm;clear hm))
    go_roundg Rd.length
    case measure=>rw [HGK.out];simp
    case rel=>exact⟨Pd++[dk],Rd,rfl,hH (by rw [HD.out];simp),by first|go_num|simp,hH (by
      have h:=M.out.imp (J':=J) fun y h=>h.1
      rw [HEQ.out] at h
      rw [HPS.out.1,HPS.out.2,List.flatMap_append,List.flatMap_cons,List.flatMap_nil,List.append_nil,←List.append_assoc]
      exact h)⟩
  | nil =>
   obtain rfl:D=Pd:=by simpa using HD.out
   have hnlt:¬(D.length:Int)<(D.length:Int):=by omega
   obtain⟨A6,c6,hv6,hA6,⟨hc6,hm6⟩,M2⟩:=M.out.freeze
   subst hv6
   replace M:=hH M2
   clear M2 HD
   have HA6:=hH hA6
   clear hA6
   have hkD:(ksD D).length=D.length:=by unfold ksD;rw [List.length_map]
   have HIL:=hH (show (insO n op 0 c.is.length W.length (ksD D)).length=lenK (lenN n) (ksD D) from insO_len fun d hd=>(HK.out.len d hd).1)
   have hE9:E≤999990:=by have:=HL.out;have:=HE.out;omega
   have hpk:=posK_len (L:=lenN n) (ksD D) c.is.length
   have HPQ:=hH (posK_lt (L:=lenN n) (ksD D) (fun x hx=>by
    obtain⟨d,hd,rfl⟩:=List.mem_map.1 hx
    exact(HK.out.len d hd).2.1) c.is.length)
   rw [HE.out] at HPQ
   obtain⟨PK,hPK⟩:∃PK,posK (lenN n) c.is.length (ksD D)=PK:=⟨_,rfl⟩
   have HPK:=hH hPK
   have HM0:=hH (show MkS w0 _ g L rs (fun y=>J y∧Rdd y 1 A6 PK.length (PK.map fun (p:Nat)=>.int .i64 (p:Int))) ⟨c.ps,c.gs,c.ss,c.is++insO n op 0 c.is.length W.length (ksD D)⟩ (W++D.flatMap (·.W)) from by rw [←hPK];exact M.out)
   clear M
   have M:=HM0
   clear HM0
   rw [hPK] at HPQ hpk ⊢
   rw [hPK] at hc6
   have hpk9:PK.length≤999990:=by omega
   have HPAT:=hH (show patchL E PK (c.is++insO n op 0 c.is.length W.length (ksD D))=c.is++insO n op E c.is.length W.length (ksD D) from by
    have:=patch_all (I:=insN n) (L:=lenN n) (Wt:=fun y=>(waitN n y).length) (op:=op) (E:=E) (ksD D) (fun x hx=>by
     obtain⟨d,hd,rfl⟩:=List.mem_map.1 hx
     exact(HK.out.len d hd).1) c.is.length W.length c.is [] rfl
    rw [hPK] at this
    simpa [insO] using this)
   have HLN:=hH (show (c.is++insO n op 0 c.is.length W.length (ksD D)).length=E from by rw [List.length_append,HIL.out,HE.out])
   clear hPK hpk hkD
   go_wp2
   go_loopg [33] PK.length (fun gk kv wr=>∃k:Nat,gk=PK.length-k∧kv=.int .i64 (k:Int)∧Hid (k≤PK.length)∧Hid (MkS w0 wr g L rs (fun y=>J y∧Rdd y 1 A6 PK.length (PK.map fun (p:Nat)=>.int .i64 (p:Int))) ⟨c.ps,c.gs,c.ss,patchL E (PK.take k) (c.is++insO n op 0 c.is.length W.length (ksD D))⟩ (W++D.flatMap (·.W))))
   case atStart=>exact⟨0,rfl,by simp,hH (Nat.zero_le _),by simpa [patchL] using M⟩
   case round =>
    clear M
    obtain⟨k,hgk,rfl,HKB,M⟩:=hrel
    have hkb:=HKB.out
    by_cases hkl:k<PK.length
    ·have hkI:(k:Int)<(PK.length:Int):=by omega
     obtain⟨p,hp⟩:∃p,PK[k]? = some p:=⟨_,List.getElem?_eq_getElem hkl⟩
     have hpE:=(HPQ.out p (List.mem_of_getElem? hp)).2
     obtain⟨IS,hIS⟩:∃IS,patchL E (PK.take k) (c.is++insO n op 0 c.is.length W.length (ksD D))=IS:=⟨_,rfl⟩
     have hln:IS.length=E:=by rw [←hIS,patchL_len];exact HLN.out
     obtain⟨y,hy⟩:∃y,IS[p]? = some y:=⟨_,List.getElem?_eq_getElem (by omega)⟩
     have HNX:=hH (show patchL E (PK.take (k+1)) (c.is++insO n op 0 c.is.length W.length (ksD D))=IS.set p (toD E y) from by
      rw [List.take_add_one,hp,Option.toList_some,patchL_snoc,hIS,modify_set hy])
     have HFS:=hH (flat_set insC 7 (fun _=>rfl) 6 (by omega) (.int .i64 (E:Int)) (toD E y) IS p y hy rfl)
     obtain⟨ad,hA,_⟩:=M.out.now.2.2 (by omega)
     obtain⟨b6,rfl⟩:=HA6.out _ hA
     subst hA
     have HC6:=hH (show ∀y:World,Rdd y 1 (some ⟨b6,0,none⟩) PK.length (PK.map fun (p:Nat)=>.int .i64 (p:Int))→y.cell? ⟨b6,k,none⟩=some (.int .i64 (p:Int)) from fun y h=>by
      obtain⟨ad,e,_,hc⟩:=h.2 (by omega)
      cases e
      have:=hc k (.int .i64 (p:Int)) (by rw [List.getElem?_map,hp];rfl)
      rw [add_lit] at this
      simpa using this)
     rw [hIS] at M
     obtain⟨v1,v2,v3,v4,v5,hM⟩:=M.out
     unfold MkR at hM
     dsimp only at hM
     rw [hln] at hM
     obtain⟨gr,cr,hv4,hcr1,hcr2⟩:=own_slice (n:=E) (hM.row (v4,49,7,E,IS.flatMap insC) (by repeat constructor)) (by omega)
     simp only at hv4
     subst hv4
     replace M:=hH hM
     clear hM
     have hpI:(p:Int)<(E:Int):=by omega
     have HGJ:=hH hgk
     have hpj:p*7+6<E*7:=by omega
     have HLI:=hH hln
     clear hp hy hgk hln hIS
     go_upto_region 11 with(first|((with_reducible refine g_ld 3 ?_);refine l_ldc O_int rfl (HC6.out _ M.out.now.2) ?_))
     replace M:=hH M.out.drew
     refine tbh (fun y=>(J y∧Rdd y 1 (some ⟨b6,0,none⟩) PK.length (PK.map fun (p:Nat)=>.int .i64 (p:Int)))∧Blk y g 61 #[v1,v2,v3,.slice (some ⟨gr,0,none⟩) E cr,v5]) ⟨M.out.now,M.out.blk (g,_,_) (by repeat constructor)⟩ fun hS=>?_
     refine tkp 0 rfl hS ?_
     refine tkp 1 rfl hS ?_
     refine tkp 2 rfl hS ?_
     refine tkp 3 rfl hS ?_
     refine tk 4 rfl hS (y_ld1 O_sIns _ g 3 rfl _ _ (fun y h=>h.2) _ rfl) ?_
     refine tkp 5 rfl hS ?_
     refine tkp 6 rfl hS ?_
     refine tkp 7 rfl hS ?_
     refine tkp 8 rfl hS ?_
     refine tkp 9 rfl hS ?_
     refine tk 10 rfl hS (y_ld1 O_sIns _ g 3 rfl _ _ (fun y h=>h.2) _ rfl) ?_
     refine tkp 11 rfl hS ?_
     refine tkp 12 rfl hS ?_
     refine tkp 13 rfl hS ?_
     refine tr [14] ?_
     refine r_st1r O_int (v:=.int .i64 (E:Int)) (i:=14) rfl rfl rfl M.out hpj ?_
     clear M;intro w' M;refine an ⟨M.out.now,M.out.blk (g,_,_) (by repeat constructor)⟩ fun hS=>tn ?_
     refine te ?_
     go_wp2
     go_roundg (PK.length-(k+1))
     case measure=>rw [HGJ.out];omega
     case rel=>exact⟨k+1,rfl,by first|go_num|simp,hH (by omega),hH (by
       rw [HNX.out]
       have h:=M.out
       rw [HFS.out] at h
       refine⟨v1,v2,v3,.slice (some ⟨gr,0,none⟩) E cr,v5,?_⟩
       unfold MkR
       dsimp only
       rw [List.length_set,HLI.out]
       exact h)⟩
    ·obtain rfl:k=PK.length:=by omega
     rw [List.take_length,HPAT.out] at M
     have hnk:¬(PK.length:Int)<(PK.length:Int):=by omega
     go_wp2
     go_end0
     exact⟨rfl,M.out.imp fun y h=>h.1⟩
end
end

end Go.Proofs.YtjbdcjcfijjiiaaGreatDoor

/- NG33: Xf, Xg joined. -/
import Derived.Test.YtjbdcjcfijjiiaaGreatDoorNG05
import Derived.Test.YtjbdcjcfijjiiaaGreatDoorNG32
namespace Go.Proofs.YtjbdcjcfijjiiaaGreatDoor
open Go.RowKit
/- ref16: token: strings, names. -/
section
open Go.RowKit
set_option maxRecDepth 100000
set_option maxHeartbeats 2000000
theorem sub_list (s:ByteArray)(a:Nat):(s.extract a s.size).data.toList=dr s a:=ext_drop s a
theorem sub_0 (s:ByteArray)(a:Nat)(h:a<s.size):(s.extract a s.size)[0]'(by simp;omega)=s[a]:=by
 have h1:(s.extract a s.size).data.toList=s[a]::dr s (a+1):=by rw [sub_list];exact drop_cons s a h
 have h2:=list_0 (s.extract a s.size) (by simp;omega)
 rw [h1] at h2
 injection h2 with h2 _
 exact h2.symm
theorem sub_dr (s:ByteArray)(a k:Nat):dr (s.extract a s.size) k=dr s (a+k):=by unfold dr;rw [ext_drop,List.drop_drop]
theorem sub_size (s:ByteArray)(a:Nat):(s.extract a s.size).size=s.size-a:=by simp
theorem rT_str (s:ByteArray)(a:Nat)(h:a<s.size)(hc:s[a]=34∨s[a]=39):tokT (dr s a)=match txtF (s.size-a) s[a] (dr s (a+1)) with|some (t,n)=>.ok (4,t,0,n+1)|none=>.error 3:=by
 have:=tokT_str (s.extract a s.size) (by simp;omega) (by rw [sub_0 s a h];exact hc)
 rw [sub_list,sub_dr,sub_0 s a h,sub_size] at this;exact this
theorem rT_num (s:ByteArray)(a:Nat)(h:a<s.size)(hc:¬(s[a]=34∨s[a]=39))(hd:isDig s[a]=true∨s[a]=45):tokT (dr s a)=match numT (dr s a) with|.ok (v,n)=>.ok (3,[],v,n)|.error e=>.error e:=by
 have:=tokT_num (s.extract a s.size) (by simp;omega) (by rw [sub_0 s a h];exact hc) (by rw [sub_0 s a h];exact hd)
 rw [sub_list] at this;exact this
theorem rT_nam (s:ByteArray)(a:Nat)(h:a<s.size)(hc:¬(s[a]=34∨s[a]=39))(hd:¬(isDig s[a]=true∨s[a]=45))(hn:0<nameL (dr s a)):tokT (dr s a)=.ok (2,(dr s a).take (nameL (dr s a)),0,nameL (dr s a)):=by
 have:=tokT_nam (s.extract a s.size) (by simp;omega) (by rw [sub_0 s a h];exact hc) (by rw [sub_0 s a h];exact hd) (by rw [sub_list];exact hn)
 rw [sub_list] at this;exact this
theorem rT_sgn (s:ByteArray)(a:Nat)(h:a<s.size)(hc:¬(s[a]=34∨s[a]=39))(hd:¬(isDig s[a]=true∨s[a]=45))(hn:nameL (dr s a)=0):tokT (dr s a)=match signsL.find? (fun x=>(dr s a).take x.length==x) with|some x=>.ok (1,x,0,x.length)|none=>.error 3:=by
 have:=tokT_sgn (s.extract a s.size) (by simp;omega) (by rw [sub_0 s a h];exact hc) (by rw [sub_0 s a h];exact hd) (by rw [sub_list];exact hn)
 rw [sub_list] at this;exact this
theorem name_num {b:UInt8}{r:List UInt8}(h:isDig b=true∨b=45):nameL (b::r)=0:=by
 have hl:letL (b::r)=0:=by
  unfold letL
  have hb:(b.toNat:Int)<128∧isLet (b.toNat:Int)=false:=by
   rcases h with h|h
   ·have:=(dig_int b).1 h
    refine⟨by omega,?_⟩
    unfold isLet
    rw [Bool.eq_false_iff];simp;omega
   ·rw [h];exact⟨by decide,by decide⟩
  rw [scal_asc b r hb.1,hb.2];rfl
 unfold nameL;rw [if_pos hl]
def tokWW (k:Int)(s:ByteArray)(n:Int)(a:Nat):Value:=.agg #[.int .i64 k,.string s,.int .i64 n,.int .i64 (a:Nat),.bool false]
def ROneE (l:List UInt8)(a:Nat)(e:Ending):Prop :=
 match tokT l with
 | .error x=>e=.returned (.tuple #[tokWW 0 ⟨#[]⟩ 0 0,.int .i64 0,.int .i64 x])
 | .ok (k,t,v,n)=>e=.returned (.tuple #[tokWW k (bs t) v a,.int .i64 ((a+n:Nat):Int),.int .i64 0])
def ROne (s:ByteArray)(a:Nat)(w:World)(e:Ending)(w':World):Prop:=ROneE (dr s a) a e∧Bel w.heap.size w w'
theorem ROneE.no {l:List UInt8}{a:Nat}{x:Int}(h:tokT l=.error x):ROneE l a (.returned (.tuple #[.agg #[.int .i64 0,.string ⟨#[]⟩,.int .i64 0,.int .i64 0,.bool false],.int .i64 0,.int .i64 x])):=by
 unfold ROneE;rw [h];rfl
theorem ROneE.yes {l:List UInt8}{a:Nat}{k v:Int}{t:List UInt8}{n:Nat}(h:tokT l=.ok (k,t,v,n)){s:ByteArray}{m:Int}(h1:s=bs t)(h2:m=((a+n:Nat):Int)):ROneE l a (.returned (.tuple #[.agg #[.int .i64 k,.string s,.int .i64 v,.int .i64 (a:Nat),.bool false],.int .i64 m,.int .i64 0])):=by
 unfold ROneE;rw [h,h1,h2];rfl
theorem bel_s5 {w w2:World}{u0 u1 u2 u3 u4:Value}(h:Bel w.heap.size w w2) :
  Bel w.heap.size w (((((w2.setCell ⟨w.heap.size,0,none⟩ u0).setCell ⟨w.heap.size,1,none⟩ u1).setCell ⟨w.heap.size,2,none⟩ u2).setCell ⟨w.heap.size,3,none⟩ u3).setCell ⟨w.heap.size,4,none⟩ u4) :=
 ((((h.setCell (Nat.le_refl _) _).setCell (Nat.le_refl _) _).setCell (Nat.le_refl _) _).setCell (Nat.le_refl _) _).setCell (Nat.le_refl _) _
def TOK0 :Array Value:=#[.int .i64 0,.string ⟨#[]⟩,.int .i64 0,.int .i64 0,.bool false]
def RK (w wr:World):Prop:=Blk wr w.heap.size 72 TOK0∧Blk wr (w.heap.size+1) 72 TOK0∧Bel w.heap.size w wr
theorem RK.start (w:World):RK w ((w.alloc (.cells #[.int .i64 0,.string ⟨#[]⟩,.int .i64 0,.int .i64 0,.bool false] 72)).alloc (.cells #[.int .i64 0,.string ⟨#[]⟩,.int .i64 0,.int .i64 0,.bool false] 72)) :=
 ⟨(Blk.new w _ _).alloc _,Blk.new1 w _ _ _,bel_lit2⟩
theorem RK.bel {w wr w2:World}(h:RK w wr)(hb:Bel wr.heap.size wr w2):RK w w2:=⟨h.1.bel hb h.1.lt,h.2.1.bel hb h.2.1.lt,h.2.2.next hb⟩
theorem RK.cells {w wr:World}(h:RK w wr):(w.heap.size<wr.heap.size∧w.heap.size+1<wr.heap.size)∧(wr.cell? ⟨w.heap.size+1,0,none⟩=some (.int .i64 0)∧wr.cell? ⟨w.heap.size+1,1,none⟩=some (.string ⟨#[]⟩)∧wr.cell? ⟨w.heap.size+1,2,none⟩=some (.int .i64 0)∧wr.cell? ⟨w.heap.size+1,3,none⟩=some (.int .i64 0)∧wr.cell? ⟨w.heap.size+1,4,none⟩=some (.bool false))∧
  (wr.frozen? ⟨w.heap.size,0,none⟩=false∧wr.frozen? ⟨w.heap.size,1,none⟩=false∧wr.frozen? ⟨w.heap.size,2,none⟩=false∧wr.frozen? ⟨w.heap.size,3,none⟩=false∧wr.frozen? ⟨w.heap.size,4,none⟩=false)∧
  (wr.cell? ⟨w.heap.size,0,none⟩=some (.int .i64 0)∧wr.cell? ⟨w.heap.size,1,none⟩=some (.string ⟨#[]⟩)∧wr.cell? ⟨w.heap.size,2,none⟩=some (.int .i64 0)∧wr.cell? ⟨w.heap.size,3,none⟩=some (.int .i64 0)∧wr.cell? ⟨w.heap.size,4,none⟩=some (.bool false)) :=
 ⟨⟨h.1.lt,h.2.1.lt⟩,⟨h.2.1.cell 0,h.2.1.cell 1,h.2.1.cell 2,h.2.1.cell 3,h.2.1.cell 4⟩,⟨h.1.frozen 0,h.1.frozen 1,h.1.frozen 2,h.1.frozen 3,h.1.frozen 4⟩,⟨h.1.cell 0,h.1.cell 1,h.1.cell 2,h.1.cell 3,h.1.cell 4⟩⟩
theorem nine' (s:ByteArray)(a:Nat)(h0:a<s.size)(hc:¬(s[a]=34∨s[a]=39)):((s[a].toNat:Int)==34)=false∧((s[a].toNat:Int)==39)=false :=
 ⟨u8_ne (n:=34) (fun h=>hc (.inl h)) (by omega),u8_ne (n:=39) (fun h=>hc (.inr h)) (by omega)⟩
theorem rtok_str (s:ByteArray)(a:Nat)(w:World)(hs:s.size≤1000000)(h0:a<s.size)(hc:s[a]=34∨s[a]=39) :
  Calls Tryz.prog 25 #[.string s,.int .i64 (a:Int)] w (ROne s a w):=by
 have HE:=hH (rT_str s a h0 hc)
 have htx:=fun w=>rtext_any s a s[a] w hs h0 rfl hc
 have hq:((s[a].toNat:Int)==34)=true∨(((s[a].toNat:Int)==34)=false∧((s[a].toNat:Int)==39)=true):=by
  rcases hc with hc|hc
  ·exact .inl (by rw [hc];rfl)
  ·exact .inr ⟨by rw [hc];rfl,by rw [hc];rfl⟩
 have hbi:=s[a].toNat_lt
 have HR:=hH (RK.start w)
 unfold txQ at htx
 clear hc
 cases ht:txtF (s.size-a) s[a] (dr s (a+1)) with
 | none =>
  have HE:=hH (show tokT (dr s a)=.error 3 by rw [HE.out,ht])
  rw [ht] at htx
  clear ht
  rcases hq with hq|⟨hq,hq2⟩
  all_goals
   go_enter Tryz.func25, Tryz.ntmps25
   generalize hQ:bodyPost Tryz.prog Tryz.f25 (ROne s a w)=Q
   have HQ:=hH hQ;clear hQ
   go_wp2_with (go_at_call 43;refine(htx _).mono ?_;rintro e w2 ⟨rfl,hb⟩;have HR2:=hH (HR.out.bel hb);clear hb;obtain⟨⟨z1,z2⟩,⟨c0,c1,c2,c3,c4⟩,⟨f0,f1,f2,f3,f4⟩,d0,d1,d2,d3,d4⟩:=HR2.out.cells)
   rw [←HQ.out]
   exact bodyPost_ret (v:=.tuple #[.agg #[.int .i64 0,.string ⟨#[]⟩,.int .i64 0,.int .i64 0,.bool false],.int .i64 0,.int .i64 3]) (by simp [results,Tryz.results25,go_sem,d0,d1,d2,d3,d4]) rfl ⟨ROneE.no HE.out,bel_s5 HR2.out.2.2⟩
 | some tk =>
  obtain⟨t,k⟩:=tk
  have HE:=hH (show tokT (dr s a)=.ok (4,t,0,k+1) by rw [HE.out,ht])
  rw [ht] at htx
  clear ht
  have hk1:¬(((a+1+k:Nat):Int))<0:=by omega
  rcases hq with hq|⟨hq,hq2⟩
  all_goals
   go_enter Tryz.func25, Tryz.ntmps25
   generalize hQ:bodyPost Tryz.prog Tryz.f25 (ROne s a w)=Q
   have HQ:=hH hQ;clear hQ
   go_wp2_with (go_at_call 43;refine(htx _).mono ?_;rintro e w2 ⟨rfl,hb⟩;have HR2:=hH (HR.out.bel hb);clear hb;obtain⟨⟨z1,z2⟩,⟨c0,c1,c2,c3,c4⟩,⟨f0,f1,f2,f3,f4⟩,d0,d1,d2,d3,d4⟩:=HR2.out.cells)
   rw [←HQ.out]
   exact bodyPost_ret (v:=.tuple #[.agg #[.int .i64 4,.string (bs ([]++t)),.int .i64 0,.int .i64 (a:Nat),.bool false],.int .i64 ((a+1+k:Nat):Int),.int .i64 0]) (by simp [results,Tryz.results25,go_sem,d0,d1,d2,d3,d4]) rfl ⟨ROneE.yes HE.out rfl (by omega),bel_s5 HR2.out.2.2⟩
theorem rtok_nam (s:ByteArray)(a:Nat)(w:World)(hs:s.size≤1000000)(h0:a<s.size)(hc:¬(s[a]=34∨s[a]=39))(hn:0<nameL (dr s a)) :
  Calls Tryz.prog 25 #[.string s,.int .i64 (a:Int)] w (ROne s a w):=by
 have hd:¬(isDig s[a]=true∨s[a]=45):=by
  intro h
  rw [show dr s a=s[a]::dr s (a+1) from drop_cons s a h0,name_num h] at hn;omega
 have HE:=hH (rT_nam s a h0 hc hd hn)
 obtain⟨hq1,hq2⟩:=nine' s a h0 hc
 have hna:=fun w=>rname_any s a w hs (by omega)
 have hnl:=nameL_le (dr s a)
 rw [dr,List.length_drop,len_toList] at hnl
 obtain⟨k,hk⟩:∃k,nameL (dr s a)=k:=⟨_,rfl⟩
 change nameL (dr s a)≤_ at hnl
 rw [hk] at hnl hn HE hna
 have hbi:=s[a].toNat_lt
 have HR:=hH (RK.start w)
 have hgt:((a+k:Nat):Int) > (a:Int):=by omega
 clear hc hd hk
 go_enter Tryz.func25, Tryz.ntmps25
 generalize hQ:bodyPost Tryz.prog Tryz.f25 (ROne s a w)=Q
 have HQ:=hH hQ;clear hQ
 go_wp2_with (go_at_call 44;refine(hna _).mono ?_;rintro e w2 ⟨rfl,hb⟩;have HR2:=hH (HR.out.bel hb);clear hb;obtain⟨⟨z1,z2⟩,⟨c0,c1,c2,c3,c4⟩,⟨f0,f1,f2,f3,f4⟩,d0,d1,d2,d3,d4⟩:=HR2.out.cells)
 rw [←HQ.out]
 exact bodyPost_ret (v:=.tuple #[.agg #[.int .i64 2,.string (s.extract a (a+k)),.int .i64 0,.int .i64 (a:Nat),.bool false],.int .i64 ((a+k:Nat):Int),.int .i64 0]) (by simp [results,Tryz.results25,go_sem,d0,d1,d2,d3,d4]) rfl ⟨ROneE.yes HE.out (bs_of (ext_mid s a k)) rfl,bel_s5 HR2.out.2.2⟩
end
/- ref16: token: numbers. -/
section
open Go.RowKit
set_option maxRecDepth 100000
set_option maxHeartbeats 4000000
theorem rnumT (s:ByteArray)(a f D:Nat)(b:Bool)(hb:hd (dr s a) 45=b)(hf:f=a+if b then 1 else 0)(hD:digN (dr s f)=D) :
  numT (dr s a)=if D=0∨(hd (dr s f) 48=true∧(b=true∨1<D)) then .error 3 else if numV ((dr s f).take D)=9007199254740992 then .error 6 else .ok (if b then-numV ((dr s f).take D) else numV ((dr s f).take D),(f-a)+D):=by
 subst hf
 have:=numT_eq (dr s a) (if b then 1 else 0) D b hb rfl (by rw [dr_dr];exact hD)
 rw [dr_dr] at this
 rw [this,Nat.add_sub_cancel_left]
theorem numV_step (s:ByteArray)(f i:Nat)(h:f+i<s.size):numV ((dr s f).take (i+1))=capI (numV ((dr s f).take i)) s[f+i]:=by
 have:=dr_snoc s f (f+i) (by omega) h
 rw [show f+i+1-f=i+1 by omega,show f+i-f=i by omega] at this
 rw [this,numV_snoc]
theorem rtok_num (s:ByteArray)(a:Nat)(w:World)(hs:s.size≤1000000)(h0:a<s.size)(hc:¬(s[a]=34∨s[a]=39))(hd_:isDig s[a]=true∨s[a]=45) :
  Calls Tryz.prog 25 #[.string s,.int .i64 (a:Int)] w (ROne s a w):=by
 have hT:=rT_num s a h0 hc hd_
 obtain⟨hq1,hq2⟩:=nine' s a h0 hc
 have e0:dr s a=s[a]::dr s (a+1):=drop_cons s a h0
 have hna:=fun w=>rname_any s a w hs (by omega)
 rw [e0,name_num hd_] at hna
 have hbi:=s[a].toNat_lt
 have HR:=hH (RK.start w)
 obtain⟨b,hb⟩:∃b,hd (dr s a) 45=b:=⟨_,rfl⟩
 obtain⟨f,hf⟩:∃f,f=a+if b then 1 else 0:=⟨_,rfl⟩
 obtain⟨D,hD⟩:∃D,digN (dr s f)=D:=⟨_,rfl⟩
 have hN:=rnumT s a f D b hb hf hD
 have hbt:((s[a].toNat:Int)==45)=b:=by rw [←hb];exact(hd_i' h0 rfl)
 have hfs:f≤s.size:=by rw [hf];split <;> omega
 have hfd:=digN_bd s f hfs
 rw [hD] at hfd
 have hdf:=fun w=>rdigits_at s f D w hs hfs (hH hD)
 have hda:b=false→∃d:Nat,0<d∧∀w,Calls Tryz.prog 45 #[.string s,.int .i64 (a:Int)] w fun e w'=>e=.returned (.int .i64 (d:Nat))∧w=w':=by
  intro hbf
  refine⟨digN (dr s a),?_,fun w=>rdigits_any s a w hs (by omega)⟩
  rcases hd_ with h|h
  ·rw [e0,digN,if_pos h];omega
  ·rw [h] at hbt;rw [hbf] at hbt;exact absurd hbt (by decide)
 have HN:=hH hN
 have HT:=hH hT
 have HAT:=hH (fun i (hi:i<D)=>dig_at s f (f+i) (by omega) (by rw [hD];omega))
 have HD48:=hH (fun hp:f<s.size=>hd_i' (c:=48) (n:=48) hp rfl)
 simp only [Nat.add_zero] at hna
 have hD0:b=false→0<D:=by
  intro hbf
  rw [hbf] at hf
  rw [show f=a from hf] at hD
  rcases hd_ with h|h
  ·rw [←hD,e0,digN,if_pos h];omega
  ·rw [h] at hbt;rw [hbf] at hbt;exact absurd hbt (by decide)
 clear hc hd_ hT hN hb hD e0
 cases b with
 | true =>
  obtain rfl:f=a+1:=hf
  clear hD0
  simp only [Int.natCast_add,Int.natCast_one] at hdf
  by_cases hz:D=0
  ·have HE:=hH (show tokT (dr s a)=.error 3 by rw [HT.out,HN.out,if_pos (.inl hz)])
   have hz':((D:Int)==0)=true:=by rw [hz];rfl
   clear hz
   go_enter Tryz.func25, Tryz.ntmps25
   generalize hQ:bodyPost Tryz.prog Tryz.f25 (ROne s a w)=Q
   have HQ:=hH hQ;clear hQ
   go_wp2_with (first|(go_at_call 44;refine(hna _).mono ?_;rintro e w2 ⟨rfl,hb⟩;have HR2:=hH (HR.out.bel hb);clear hb;obtain⟨⟨z1,z2⟩,⟨c0,c1,c2,c3,c4⟩,⟨f0,f1,f2,f3,f4⟩,d0,d1,d2,d3,d4⟩:=HR2.out.cells)|(go_at_call 45;refine(hdf _).mono ?_;rintro e w' ⟨rfl,rfl⟩))
   rw [←HQ.out]
   exact bodyPost_ret (v:=.tuple #[.agg #[.int .i64 0,.string ⟨#[]⟩,.int .i64 0,.int .i64 0,.bool false],.int .i64 0,.int .i64 3]) (by simp [results,Tryz.results25,go_sem,d0,d1,d2,d3,d4]) rfl ⟨ROneE.no HE.out,bel_s5 HR2.out.2.2⟩
  ·have hz':((D:Int)==0)=false:=by rw [beq_eq_false_iff_ne];omega
   have hp:a+1<s.size:=by omega
   have hbp:=s[a+1].toNat_lt
   have h48:=HD48.out hp
   have HZ:=hH hz
   cases hq:hd (dr s (a+1)) 48 with
   | true =>
    have HE:=hH (show tokT (dr s a)=.error 3 by rw [HT.out,HN.out,if_pos (.inr ⟨hq,.inl rfl⟩)])
    rw [hq] at h48
    clear hq hz
    go_enter Tryz.func25, Tryz.ntmps25
    generalize hQ:bodyPost Tryz.prog Tryz.f25 (ROne s a w)=Q
    have HQ:=hH hQ;clear hQ
    by_cases h1:(1:Int)<(D:Int)
    all_goals
     go_wp2_with (first|(go_at_call 44;refine(hna _).mono ?_;rintro e w2 ⟨rfl,hb⟩;have HR2:=hH (HR.out.bel hb);clear hb;obtain⟨⟨z1,z2⟩,⟨c0,c1,c2,c3,c4⟩,⟨f0,f1,f2,f3,f4⟩,d0,d1,d2,d3,d4⟩:=HR2.out.cells)|(go_at_call 45;refine(hdf _).mono ?_;rintro e w' ⟨rfl,rfl⟩))
     rw [←HQ.out]
     exact bodyPost_ret (v:=.tuple #[.agg #[.int .i64 0,.string ⟨#[]⟩,.int .i64 0,.int .i64 0,.bool false],.int .i64 0,.int .i64 3]) (by simp [results,Tryz.results25,go_sem,d0,d1,d2,d3,d4]) rfl ⟨ROneE.no HE.out,bel_s5 HR2.out.2.2⟩
   | false =>
    rw [hq] at h48
    have HQ48:=hH hq
    clear hq hz
    go_enter Tryz.func25, Tryz.ntmps25
    generalize hQ:bodyPost Tryz.prog Tryz.f25 (ROne s a w)=Q
    have HQ:=hH hQ;clear hQ
    have HN:=hH (HN.out.trans (if_neg (by simp [HZ.out,HQ48.out])))
    go_wp2_with (first|(go_at_call 44;refine(hna _).mono ?_;rintro e w2 ⟨rfl,hb⟩;have HR2:=hH (HR.out.bel hb);clear hb;obtain⟨⟨z1,z2⟩,⟨c0,c1,c2,c3,c4⟩,⟨f0,f1,f2,f3,f4⟩,d0,d1,d2,d3,d4⟩:=HR2.out.cells)|(go_at_call 45;refine(hdf _).mono ?_;rintro e w' ⟨rfl,rfl⟩))
    go_loop [14,15] (fun x y=>∃(i:Nat) (v:Int),i≤D∧0≤v∧v≤9007199254740992∧x=.int .i64 v∧y=.int .i64 i∧Hid (v=numV ((dr s (a+1)).take i))) (fun _ y=>D-(intOf y).toNat)
    case atStart=>exact⟨0,0,by omega,by omega,by omega,rfl,rfl,hH rfl⟩
    case round =>
     obtain⟨i,v,hi,hv0,hv1,rfl,rfl,HV⟩:=hrel
     by_cases hlt:i<D
     ·have hp:a+1+i<s.size:=by omega
      have hbp:=s[a+1+i].toNat_lt
      obtain⟨_,hdg⟩:=HAT.out i hlt
      obtain⟨hg0,hg1⟩:=digB_bd hdg
      have HV2:=hH (show capI v s[a+1+i]=numV ((dr s (a+1)).take (i+1)) by rw [numV_step s (a+1) i hp,←HV.out])
      have hcb:=capI_bd v s[a+1+i] hv0 hg0
      have HCI:=hH (show capI v s[a+1+i]=min (v*10+((s[a+1+i].toNat:Int)-48)) 9007199254740992 from rfl)
      clear hdg
      go_wp2
      all_goals
       go_round
       case rel=>exact⟨i+1,capI v s[a+1+i],by omega,hcb.1,hcb.2,by rw [HCI.out];(congr 1;omega),by go_num,HV2⟩
       case measure=>simp [intOf] <;> omega
     ·have HV:=hH (show v=numV ((dr s (a+1)).take D) by rw [HV.out,show i=D by omega])
      by_cases h53:v=9007199254740992
      ·have HE:=hH (show tokT (dr s a)=.error 6 by rw [HT.out,HN.out,←HV.out,if_pos h53])
       have h53':(v==9007199254740992)=true:=by rw [h53];rfl
       clear h53
       go_wp2
       rw [←HQ.out]
       exact bodyPost_ret (v:=.tuple #[.agg #[.int .i64 0,.string ⟨#[]⟩,.int .i64 0,.int .i64 0,.bool false],.int .i64 0,.int .i64 6]) (by simp [results,Tryz.results25,go_sem,d0,d1,d2,d3,d4]) rfl ⟨ROneE.no HE.out,bel_s5 HR2.out.2.2⟩
      ·have HE:=hH (show tokT (dr s a)=.ok (3,[],(-v),(a+1-a)+D) by rw [HT.out,HN.out,←HV.out,if_neg h53];rfl)
       have h53':(v==9007199254740992)=false:=by rw [beq_eq_false_iff_ne];exact h53
       clear h53
       go_wp2
       rw [←HQ.out]
       exact bodyPost_ret (v:=.tuple #[.agg #[.int .i64 3,.string ⟨#[]⟩,.int .i64 (-v),.int .i64 (a:Nat),.bool false],.int .i64 ((a:Int)+1+(D:Int)),.int .i64 0]) (by simp [results,Tryz.results25,go_sem,d0,d1,d2,d3,d4]) rfl ⟨ROneE.yes HE.out rfl (by omega),bel_s5 HR2.out.2.2⟩
 | false =>
  obtain rfl:f=a:=hf
  have hz:=hD0 rfl
  clear hD0
  have hz':((D:Int)==0)=false:=by rw [beq_eq_false_iff_ne];omega
  have hdg0:(D:Int) > 0:=by omega
  have hp:f<s.size:=h0
  have h48:=HD48.out hp
  cases hq:hd (dr s f) 48 with
  | true =>
   by_cases h1:1<D
   ·have HE:=hH (show tokT (dr s f)=.error 3 by rw [HT.out,HN.out,if_pos (.inr ⟨hq,.inr h1⟩)])
    have h1':(1:Int)<(D:Int):=by omega
    rw [hq] at h48
    clear hq
    go_enter Tryz.func25, Tryz.ntmps25
    generalize hQ:bodyPost Tryz.prog Tryz.f25 (ROne s f w)=Q
    have HQ:=hH hQ;clear hQ
    go_wp2_with (first|(go_at_call 44;refine(hna _).mono ?_;rintro e w2 ⟨rfl,hb⟩;have HR2:=hH (HR.out.bel hb);clear hb;obtain⟨⟨z1,z2⟩,⟨c0,c1,c2,c3,c4⟩,⟨f0,f1,f2,f3,f4⟩,d0,d1,d2,d3,d4⟩:=HR2.out.cells)|(go_at_call 45;refine(hdf _).mono ?_;rintro e w' ⟨rfl,rfl⟩))
    rw [←HQ.out]
    exact bodyPost_ret (v:=.tuple #[.agg #[.int .i64 0,.string ⟨#[]⟩,.int .i64 0,.int .i64 0,.bool false],.int .i64 0,.int .i64 3]) (by simp [results,Tryz.results25,go_sem,d0,d1,d2,d3,d4]) rfl ⟨ROneE.no HE.out,bel_s5 HR2.out.2.2⟩
   ·have HG:=hH (show ¬(D=0∨hd (dr s f) 48=true∧(false=true∨1<D)) by simp;omega)
    have h1':¬(1:Int)<(D:Int):=by omega
    rw [hq] at h48
    clear hq
    go_enter Tryz.func25, Tryz.ntmps25
    generalize hQ:bodyPost Tryz.prog Tryz.f25 (ROne s f w)=Q
    have HQ:=hH hQ;clear hQ
    have HN:=hH (HN.out.trans (if_neg (by exact HG.out)))
    go_wp2_with (first|(go_at_call 44;refine(hna _).mono ?_;rintro e w2 ⟨rfl,hb⟩;have HR2:=hH (HR.out.bel hb);clear hb;obtain⟨⟨z1,z2⟩,⟨c0,c1,c2,c3,c4⟩,⟨f0,f1,f2,f3,f4⟩,d0,d1,d2,d3,d4⟩:=HR2.out.cells)|(go_at_call 45;refine(hdf _).mono ?_;rintro e w' ⟨rfl,rfl⟩))
    go_loop [14,15] (fun x y=>∃(i:Nat) (v:Int),i≤D∧0≤v∧v≤9007199254740992∧x=.int .i64 v∧y=.int .i64 i∧Hid (v=numV ((dr s (f)).take i))) (fun _ y=>D-(intOf y).toNat)
    case atStart=>exact⟨0,0,by omega,by omega,by omega,rfl,rfl,hH rfl⟩
    case round =>
     obtain⟨i,v,hi,hv0,hv1,rfl,rfl,HV⟩:=hrel
     by_cases hlt:i<D
     ·have hp:f+i<s.size:=by omega
      have hbp:=s[f+i].toNat_lt
      obtain⟨_,hdg⟩:=HAT.out i hlt
      obtain⟨hg0,hg1⟩:=digB_bd hdg
      have HV2:=hH (show capI v s[f+i]=numV ((dr s (f)).take (i+1)) by rw [numV_step s (f) i hp,←HV.out])
      have hcb:=capI_bd v s[f+i] hv0 hg0
      have HCI:=hH (show capI v s[f+i]=min (v*10+((s[f+i].toNat:Int)-48)) 9007199254740992 from rfl)
      clear hdg
      go_wp2
      all_goals
       go_round
       case rel=>exact⟨i+1,capI v s[f+i],by omega,hcb.1,hcb.2,by rw [HCI.out];(congr 1;omega),by go_num,HV2⟩
       case measure=>simp [intOf] <;> omega
     ·have HV:=hH (show v=numV ((dr s (f)).take D) by rw [HV.out,show i=D by omega])
      by_cases h53:v=9007199254740992
      ·have HE:=hH (show tokT (dr s f)=.error 6 by rw [HT.out,HN.out,←HV.out,if_pos h53])
       have h53':(v==9007199254740992)=true:=by rw [h53];rfl
       clear h53
       go_wp2
       rw [←HQ.out]
       exact bodyPost_ret (v:=.tuple #[.agg #[.int .i64 0,.string ⟨#[]⟩,.int .i64 0,.int .i64 0,.bool false],.int .i64 0,.int .i64 6]) (by simp [results,Tryz.results25,go_sem,d0,d1,d2,d3,d4]) rfl ⟨ROneE.no HE.out,bel_s5 HR2.out.2.2⟩
      ·have HE:=hH (show tokT (dr s f)=.ok (3,[],v,(f-f)+D) by rw [HT.out,HN.out,←HV.out,if_neg h53];rfl)
       have h53':(v==9007199254740992)=false:=by rw [beq_eq_false_iff_ne];exact h53
       clear h53
       go_wp2
       rw [←HQ.out]
       exact bodyPost_ret (v:=.tuple #[.agg #[.int .i64 3,.string ⟨#[]⟩,.int .i64 v,.int .i64 (f:Nat),.bool false],.int .i64 ((f:Int)+(D:Int)),.int .i64 0]) (by simp [results,Tryz.results25,go_sem,d0,d1,d2,d3,d4]) rfl ⟨ROneE.yes HE.out rfl (by omega),bel_s5 HR2.out.2.2⟩
  | false =>
   have HG:=hH (show ¬(D=0∨hd (dr s f) 48=true∧(false=true∨1<D)) by rw [hq];simp;omega)
   rw [hq] at h48
   clear hq
   go_enter Tryz.func25, Tryz.ntmps25
   generalize hQ:bodyPost Tryz.prog Tryz.f25 (ROne s f w)=Q
   have HQ:=hH hQ;clear hQ
   have HN:=hH (HN.out.trans (if_neg (by exact HG.out)))
   go_wp2_with (first|(go_at_call 44;refine(hna _).mono ?_;rintro e w2 ⟨rfl,hb⟩;have HR2:=hH (HR.out.bel hb);clear hb;obtain⟨⟨z1,z2⟩,⟨c0,c1,c2,c3,c4⟩,⟨f0,f1,f2,f3,f4⟩,d0,d1,d2,d3,d4⟩:=HR2.out.cells)|(go_at_call 45;refine(hdf _).mono ?_;rintro e w' ⟨rfl,rfl⟩))
   go_loop [14,15] (fun x y=>∃(i:Nat) (v:Int),i≤D∧0≤v∧v≤9007199254740992∧x=.int .i64 v∧y=.int .i64 i∧Hid (v=numV ((dr s (f)).take i))) (fun _ y=>D-(intOf y).toNat)
   case atStart=>exact⟨0,0,by omega,by omega,by omega,rfl,rfl,hH rfl⟩
   case round =>
    obtain⟨i,v,hi,hv0,hv1,rfl,rfl,HV⟩:=hrel
    by_cases hlt:i<D
    ·have hp:f+i<s.size:=by omega
     have hbp:=s[f+i].toNat_lt
     obtain⟨_,hdg⟩:=HAT.out i hlt
     obtain⟨hg0,hg1⟩:=digB_bd hdg
     have HV2:=hH (show capI v s[f+i]=numV ((dr s (f)).take (i+1)) by rw [numV_step s (f) i hp,←HV.out])
     have hcb:=capI_bd v s[f+i] hv0 hg0
     have HCI:=hH (show capI v s[f+i]=min (v*10+((s[f+i].toNat:Int)-48)) 9007199254740992 from rfl)
     clear hdg
     go_wp2
     all_goals
      go_round
      case rel=>exact⟨i+1,capI v s[f+i],by omega,hcb.1,hcb.2,by rw [HCI.out];(congr 1;omega),by go_num,HV2⟩
      case measure=>simp [intOf] <;> omega
    ·have HV:=hH (show v=numV ((dr s (f)).take D) by rw [HV.out,show i=D by omega])
     by_cases h53:v=9007199254740992
     ·have HE:=hH (show tokT (dr s f)=.error 6 by rw [HT.out,HN.out,←HV.out,if_pos h53])
      have h53':(v==9007199254740992)=true:=by rw [h53];rfl
      clear h53
      go_wp2
      rw [←HQ.out]
      exact bodyPost_ret (v:=.tuple #[.agg #[.int .i64 0,.string ⟨#[]⟩,.int .i64 0,.int .i64 0,.bool false],.int .i64 0,.int .i64 6]) (by simp [results,Tryz.results25,go_sem,d0,d1,d2,d3,d4]) rfl ⟨ROneE.no HE.out,bel_s5 HR2.out.2.2⟩
     ·have HE:=hH (show tokT (dr s f)=.ok (3,[],v,(f-f)+D) by rw [HT.out,HN.out,←HV.out,if_neg h53];rfl)
      have h53':(v==9007199254740992)=false:=by rw [beq_eq_false_iff_ne];exact h53
      clear h53
      go_wp2
      rw [←HQ.out]
      exact bodyPost_ret (v:=.tuple #[.agg #[.int .i64 3,.string ⟨#[]⟩,.int .i64 v,.int .i64 (f:Nat),.bool false],.int .i64 ((f:Int)+(D:Int)),.int .i64 0]) (by simp [results,Tryz.results25,go_sem,d0,d1,d2,d3,d4]) rfl ⟨ROneE.yes HE.out rfl (by omega),bel_s5 HR2.out.2.2⟩
end

end Go.Proofs.YtjbdcjcfijjiiaaGreatDoor

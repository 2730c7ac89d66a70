/- NG42: Qr, Qs, Qt joined. -/
import Derived.Test.YtjbdcjcfijjiiaaGreatDoorNQn
import Derived.Test.YtjbdcjcfijjiiaaGreatDoorNQi
namespace Go.Proofs.YtjbdcjcfijjiiaaGreatDoor
open Go.RowKit
/- qtree: ops, slices.Index, op. -/
section
open Go.RowKit
set_option maxRecDepth 100000
set_option maxHeartbeats 2000000
def idxL (s:List UInt8):List (List UInt8)→Int→Int
 | [],_=>-1
 | a::r,i=>if s==a then i else idxL s r (i+1)
theorem idxL_find (s:List UInt8):∀(l:List (List UInt8)) (i:Int),idxL s l i=(match l.findIdx? (fun x=>x==s) with|some j=>i+(j:Int)|none=>-1)
 | [],_=>rfl
 | a::r,i=>by
  rw [idxL,List.findIdx?_cons,idxL_find s r (i+1)]
  by_cases h:s=a
  ·subst h;simp
  ·have h':a≠s:=fun e=>h e.symm
   simp only [beq_iff_eq,h,h',if_false]
   cases r.findIdx? (fun x=>x==s) with
   | none=>rfl
   | some j=>show i+1+(j:Int)=i+((j+1:Nat):Int);push_cast;omega
theorem opS_idx {t:PSt}(h:kindS t=1):opS t=idxL (hdT t).s opsL 0:=by
 rw [idxL_find]
 unfold opS
 rw [if_pos h]
 cases opsL.findIdx? (fun x=>x==(hdT t).s) with
 | none=>rfl
 | some j=>simp
theorem ops_any (w:World):Calls Tryz.prog 125 #[] w fun e w'=>e=.returned (.slice (some ⟨w.heap.size,0,none⟩) 6 6)∧w'=w.alloc (.cells #[.string ⟨#[61,61]⟩,.string ⟨#[33,61]⟩,.string ⟨#[60]⟩,.string ⟨#[60,61]⟩,.string ⟨#[62]⟩,.string ⟨#[62,61]⟩] 9):=by
 go_enter Tryz.func125, Tryz.ntmps125
 go_wp2
 go_ret
 exact⟨rfl,rfl⟩
theorem index_any (b off:Nat)(l:List (List UInt8))(c:Nat)(s:List UInt8)(w:World)(hl:l.length≤1000)(hc:∀i a,l[i]? = some a→w.cell? ⟨b,off+i,none⟩=some (.string (bs a))) :
  Calls Tryz.prog 124 #[.slice (some ⟨b,off,none⟩) l.length c,.string (bs s)] w fun e w'=>e=.returned (.int .i64 (idxL s l 0))∧w=w':=by
 have HC:=hH hc
 clear hc
 go_enter Tryz.func124, Tryz.ntmps124
 go_wp2
 go_loopw [8] (fun i wr=>∃k:Nat,k≤l.length∧i=.int .i64 k∧wr=w∧Hid (idxL s l 0=idxL s (l.drop k) k)) (fun i _=>l.length-(intOf i).toNat)
 case atStart=>exact⟨0,Nat.zero_le _,rfl,rfl,hH rfl⟩
 case round =>
  obtain⟨k,hk,rfl,rfl,HE⟩:=hrel
  rcases Nat.lt_or_ge k l.length with hlt|hge
  ·obtain⟨a,ha⟩:∃a,l[k]? = some a:=⟨_,List.getElem?_eq_getElem hlt⟩
   have hcell:=HC.out k a ha
   have hdr:l.drop k=a::l.drop (k+1):=by
    have hak:l[k]=a:=by rw [List.getElem?_eq_getElem hlt] at ha;injection ha
    rw [List.drop_eq_getElem_cons hlt,hak]
   have HE2:=hH (HE.out.trans (by rw [hdr,idxL]))
   have hlt2:(k:Int)<(l.length:Int):=by omega
   clear hdr ha HE
   cases hb:(s==a) with
   | true =>
    have hcmp:((bs s).toList==(bs a).toList)=true:=by rw [bs_tl,bs_tl];exact hb
    have HF:=hH (show idxL s l 0=k by rw [HE2.out,ite_tt hb])
    clear hb HE2
    go_wp2
    go_ret
    exact⟨ret_int HF.out.symm,rfl⟩
   | false =>
    have hcmp:((bs s).toList==(bs a).toList)=false:=by rw [bs_tl,bs_tl];exact hb
    have HF:=hH (show idxL s l 0=idxL s (l.drop (k+1)) ((k:Int)+1) by rw [HE2.out,ite_ff hb])
    clear hb HE2
    go_wp2
    go_roundw
    case measure=>simp [intOf];omega
    case rel=>exact⟨k+1,hlt,by simp,by first|rfl|trivial,hH (by rw [HF.out];simp)⟩
  ·have hge2:¬(k:Int)<(l.length:Int):=by omega
   have HF:=hH (show idxL s l 0 = -1 by rw [HE.out,List.drop_of_length_le hge];rfl)
   clear HE
   go_wp2
   go_ret
   exact⟨ret_int HF.out.symm,by first|rfl|trivial⟩
theorem ops_cells {w:World}{b:Nat}{T:TypeId}(h:Blk w b T #[.string ⟨#[61,61]⟩,.string ⟨#[33,61]⟩,.string ⟨#[60]⟩,.string ⟨#[60,61]⟩,.string ⟨#[62]⟩,.string ⟨#[62,61]⟩]) :
  ∀i a,opsL[i]? = some a→w.cell? ⟨b,0+i,none⟩=some (.string (bs a)):=by
 intro i a ha
 rw [Nat.zero_add,h.cell i]
 match i,ha with
 | 0,ha=>cases ha;rfl
 | 1,ha=>cases ha;rfl
 | 2,ha=>cases ha;rfl
 | 3,ha=>cases ha;rfl
 | 4,ha=>cases ha;rfl
 | 5,ha=>cases ha;rfl
 | n+6,ha=>simp [opsL] at ha
theorem ops_index (s:List UInt8)(w:World)(b:Nat)(h:Blk w b 9 #[.string ⟨#[61,61]⟩,.string ⟨#[33,61]⟩,.string ⟨#[60]⟩,.string ⟨#[60,61]⟩,.string ⟨#[62]⟩,.string ⟨#[62,61]⟩]) :
  Calls Tryz.prog 124 #[.slice (some ⟨b,0,none⟩) 6 6,.string (bs s)] w fun e w'=>e=.returned (.int .i64 (idxL s opsL 0))∧w=w' :=
 index_any b 0 opsL 6 s w (by decide) (ops_cells h)
theorem op_any (g:Nat)(E:Int)(t:PSt)(d:Nat)(w:World)(h:RdS g E w t d) :
  Calls Tryz.prog 122 #[.pointer (some ⟨g,0,none⟩)] w fun e w'=>e=.returned (.int .i64 (opS t))∧RdS g E w' t d∧Ex g w w':=by
 obtain⟨k,hk⟩:∃k,kindS t=k:=⟨_,rfl⟩
 have HR:=hH h
 have HK:=hH (kind_at k w h (hH hk))
 by_cases h1:k=1
 ·have hk1:(k==1)=true:=by rw [h1];rfl
  have HE:=hH (show opS t=idxL (hdT t).s opsL 0 from opS_idx (hk.trans h1))
  obtain⟨A,c,n,hn,hnc,hc,hd,hg,⟨c0,c1,c2,c3,c4⟩,_,hT⟩:=h.cells
  have hov:ovS t=false:=by
   cases h9:ovS t with
   | false=>rfl
   | true=>have:=(nextS_ov (E:=E) h9).2;unfold kindS at hk;rw [this] at hk;simp [tok0] at hk;omega
  obtain⟨x,r,hx⟩:=ov_no hov
  have hx1:(hdT t).s=x.s:=by rw [hx];rfl
  rw [hx1] at HE
  rw [hx] at hn hT
  obtain⟨b,off,rfl,hb,y0,y1,y2,y3,y4⟩:=hT.head
  have hn0:(0:Int)<(n:Int):=by rw [hn];simp
  have hb2:b<w.heap.size:=by omega
  have HO:=hH ops_any
  have HX:=hH (fun w b h=>ops_index x.s w b h)
  clear h hk h1 hT hn hov hx hx1
  go_enter Tryz.func122, Tryz.ntmps122
  go_wp2_with (go_at_call 36;refine HK.out.mono ?_;rintro e w' ⟨rfl,rfl⟩)
  go_region_with (first|(go_at_call 125;refine(HO.out _).mono ?_;rintro e w1 ⟨rfl,rfl⟩)|(go_at_call 124;refine(HX.out _ _ ?_).mono ?_;(first|exact Blk.new _ _ _|exact Blk.new w.drew _ _);rintro e w1 ⟨rfl,rfl⟩))
  all_goals
   go_wp2
   go_ret
   exact⟨ret_int HE.out.symm,by first|exact HR.out.alloc _|exact HR.out.drew.alloc _|exact(HR.out.alloc _).drew|exact(HR.out.drew.alloc _).drew,by first|exact(Ex.refl g w).alloc _|exact(Ex.refl g w).drew.alloc _|exact((Ex.refl g w).alloc _).drew|exact((Ex.refl g w).drew.alloc _).drew⟩
 ·have hk1:(k != 1)=true:=by rw [bne_iff_ne];exact h1
  have HE:=hH (show opS t = -1 by unfold opS;rw [hk,if_neg h1])
  clear hk h1 h
  go_enter Tryz.func122, Tryz.ntmps122
  go_wp2_with (go_at_call 36;refine HK.out.mono ?_;rintro e w' ⟨rfl,rfl⟩)
  go_ret
  exact⟨ret_int HE.out.symm,HR.out,Ex.refl g w⟩
end
/- qtree: Singular. -/
section
open Go.RowKit
set_option maxRecDepth 100000
set_option maxHeartbeats 1000000
def segSing (s:SegT):Bool:=!s.deep && (match s.sels with|[x]=>decide (x.kind=0∨x.kind=2)|_=>false)
theorem sing1_any {K:Nat→Prop}{R:List Value→ExprT→Prop}(dp:Bool)(l:List SelT)(A:Option Addr)(c:Nat)(w:World)(h:RowG K 9 (SelC K R w) w (.slice A l.length c) l) :
  Calls Tryz.prog 127 #[.agg #[.bool dp,.slice A l.length c]] w fun e w'=>e=.returned (.bool (!segSing ⟨dp,l⟩))∧Bel w.heap.size w w':=by
 cases dp with
 | true =>
  clear h
  go_enter Tryz.func127, Tryz.ntmps127
  go_wp2
  go_ret
  exact⟨ret_bool rfl,Bel.of (by (repeat' (first | (with_reducible exact Below.refl _ _) | (with_reducible refine Below.trans ?_ (below_drewN _ _ _)) | (with_reducible refine Below.alloc ?_ ?_ _) | (with_reducible refine Below.setCell ?_ ?_ _) | (with_reducible refine Below.drew ?_) | go_size)))⟩
 | false =>
  by_cases hl:l.length=1
  ·obtain⟨y,rfl⟩:=List.length_eq_one_iff.1 hl
   obtain⟨A',cap,e1,-,h3⟩:=h
   obtain⟨b,off,rfl,hK,hb,hc⟩:=h3.resolve_left (by simp)
   obtain⟨cs,-,hcs,pv,rfl,-⟩:=hc 0 y rfl
   have d0:=hcs 0 _ rfl
   rw [show off+0*9+0=off by omega] at d0
   obtain rfl:A=some ⟨b,off,none⟩:=by simpa using (Value.slice.inj e1).1
   clear hcs hc h3 e1 hl
   by_cases k0:y.kind=0
   ·have h0:(y.kind != 0)=false:=by rw [k0];rfl
    have HE:=hH (show segSing ⟨false,[y]⟩=true by unfold segSing;simp [k0])
    clear k0
    go_enter Tryz.func127, Tryz.ntmps127
    go_wp2
    go_ret
    exact⟨ret_bool (by rw [HE.out];rfl),Bel.of (by (repeat' (first | (with_reducible exact Below.refl _ _) | (with_reducible refine Below.trans ?_ (below_drewN _ _ _)) | (with_reducible refine Below.alloc ?_ ?_ _) | (with_reducible refine Below.setCell ?_ ?_ _) | (with_reducible refine Below.drew ?_) | go_size)))⟩
   ·have h0:(y.kind != 0)=true:=bne_iff_ne.2 k0
    obtain⟨q,hq⟩:∃q,(y.kind != 2)=q:=⟨_,rfl⟩
    have HE:=hH (show segSing ⟨false,[y]⟩ = !q by unfold segSing;rw [←hq];by_cases k2:y.kind=2 <;> simp [k0,k2])
    clear k0
    go_enter Tryz.func127, Tryz.ntmps127
    go_wp2
    go_ret
    exact⟨ret_bool (by rw [HE.out,Bool.not_not]),Bel.of (by (repeat' (first | (with_reducible exact Below.refl _ _) | (with_reducible refine Below.trans ?_ (below_drewN _ _ _)) | (with_reducible refine Below.alloc ?_ ?_ _) | (with_reducible refine Below.setCell ?_ ?_ _) | (with_reducible refine Below.drew ?_) | go_size)))⟩
  ·have hn:((l.length:Int) != 1)=true:=by rw [bne_iff_ne];omega
   have HE:=hH (show segSing ⟨false,l⟩=false by
    unfold segSing
    match l,hl with
    | [],_=>rfl
    | [_],hl=>simp at hl
    | _::_::_,_=>rfl)
   clear h hl
   go_enter Tryz.func127, Tryz.ntmps127
   go_wp2
   go_ret
   exact⟨ret_bool (by rw [HE.out];rfl),Bel.of (by (repeat' (first | (with_reducible exact Below.refl _ _) | (with_reducible refine Below.trans ?_ (below_drewN _ _ _)) | (with_reducible refine Below.alloc ?_ ?_ _) | (with_reducible refine Below.setCell ?_ ?_ _) | (with_reducible refine Below.drew ?_) | go_size)))⟩
theorem SegsG.at_ {K:Nat→Prop}{R:List Value→ExprT→Prop}{w:World}{A:Option Addr}{n c:Nat}{l:List SegT}(h:SegsG K R w (.slice A n c) l){k:Nat}{x:SegT}(hk:l[k]? = some x) :
  ∃b off A2 c2,A=some ⟨b,off,none⟩∧b<w.heap.size∧w.cell? ⟨b,off+k*2,none⟩=some (.bool x.deep)∧w.cell? ⟨b,off+k*2+1,none⟩=some (.slice A2 x.sels.length c2)∧RowG K 9 (SelC K R w) w (.slice A2 x.sels.length c2) x.sels:=by
 obtain⟨A',cap,e1,-,h3⟩:=h
 obtain⟨b,off,rfl,hK,hb,hc⟩:=h3.resolve_left (by intro e;rw [e] at hk;simp at hk)
 obtain⟨cs,-,hcs,sv,rfl,hrow⟩:=hc k x hk
 obtain⟨A2,c2,rfl⟩:=hrow.slice
 obtain rfl:A=some ⟨b,off,none⟩:=(Value.slice.inj e1).1
 exact⟨b,off,A2,c2,rfl,hb,hcs 0 _ rfl,hcs 1 _ rfl,hrow⟩
theorem SegsG.bel {K:Nat→Prop}{R:List Value→ExprT→Prop}{m:Nat}{w w':World}{v:Value}{l:List SegT}(_hR:R=ExR K m w)(h:SegsG K (ExR K m w) w v l)(hb:Bel w.heap.size w w'):SegsG K (ExR K m w') w' v l :=
 h.keep (Kp.of_bel hb fun _ h _=>h) fun _ _ h=>ExR.keep (Kp.of_bel hb fun _ h _=>h) _ _ (Nat.le_refl _) _ _ h
theorem indexFunc_any {K:Nat→Prop}{m:Nat}(l:List SegT)(A:Option Addr)(c:Nat)(w:World)(hl:l.length≤10000000)(h:SegsG K (ExR K m w) w (.slice A l.length c) l) :
  Calls Tryz.prog 128 #[.slice A l.length c,.func (.func 127) #[] #[]] w fun e w'=>∃r:Int,e=.returned (.int .i64 r)∧decide (0≤r) = !l.all segSing∧Bel w.heap.size w w':=by
 have HG:=hH h
 clear h
 go_enter Tryz.func128, Tryz.ntmps128
 go_wp2
 go_loopw [8] (fun i wr=>∃k:Nat,k≤l.length∧i=.int .i64 k∧Hid (Bel w.heap.size w wr)∧Hid (l.all segSing=(l.drop k).all segSing)) (fun i _=>l.length-(intOf i).toNat)
 case atStart=>exact⟨0,Nat.zero_le _,rfl,hH (Bel.refl _ _),hH rfl⟩
 case round =>
  obtain⟨k,hk,rfl,HW,HE⟩:=hrel
  rcases Nat.lt_or_ge k l.length with hlt|hge
  ·obtain⟨x,hx⟩:∃x,l[k]? = some x:=⟨_,List.getElem?_eq_getElem hlt⟩
   have hG2:=SegsG.bel rfl HG.out HW.out
   obtain⟨b,off,A2,c2,rfl,hb,d0,d1,hrow⟩:=hG2.at_ hx
   have HS:=hH (sing1_any x.deep x.sels A2 c2 wr hrow)
   have hdr:l.drop k=x::l.drop (k+1):=by
    have hak:l[k]=x:=by rw [List.getElem?_eq_getElem hlt] at hx;injection hx
    rw [List.drop_eq_getElem_cons hlt,hak]
   have HE2:=hH (HE.out.trans (by rw [hdr,List.all_cons]))
   have hlt2:(k:Int)<(l.length:Int):=by omega
   obtain⟨r,hr⟩:∃r,segSing x=r:=⟨_,rfl⟩
   have hr':segSing ⟨x.deep,x.sels⟩=r:=hr
   rw [hr'] at HS
   rw [hr] at HE2
   clear hdr hx HE hrow hG2 hr hr'
   cases r with
   | false =>
    go_wp2_with (go_at_call 127;refine HS.out.mono ?_;rintro e w2 ⟨rfl,hb2⟩;have HW2:=hH (HW.out.next hb2);clear hb2)
    go_ret
    exact⟨_,rfl,by rw [HE2.out];simp,HW2.out⟩
   | true =>
    go_wp2_with (go_at_call 127;refine HS.out.mono ?_;rintro e w2 ⟨rfl,hb2⟩;have HW2:=hH (HW.out.next hb2);clear hb2)
    go_roundw
    case measure=>simp [intOf];omega
    case rel=>exact⟨k+1,hlt,by simp,HW2,hH (by rw [HE2.out,Bool.true_and])⟩
  ·have hge2:¬(k:Int)<(l.length:Int):=by omega
   have HF:=hH (show l.all segSing=true by rw [HE.out,List.drop_of_length_le hge];rfl)
   clear HE
   go_wp2
   go_ret
   exact⟨_,rfl,by rw [HF.out];rfl,HW.out⟩
theorem containsFunc_any {K:Nat→Prop}{m:Nat}(l:List SegT)(A:Option Addr)(c:Nat)(w:World)(hl:l.length≤10000000)(h:SegsG K (ExR K m w) w (.slice A l.length c) l) :
  Calls Tryz.prog 126 #[.slice A l.length c,.func (.func 127) #[] #[]] w fun e w'=>e=.returned (.bool (!l.all segSing))∧Bel w.heap.size w w':=by
 have HI:=hH (indexFunc_any l A c w hl h)
 clear h
 go_enter Tryz.func126, Tryz.ntmps126
 go_wp2_with (go_at_call 128;refine HI.out.mono ?_;rintro e w2 ⟨r,rfl,hr,hb⟩;have HR:=hH hr;have HB:=hH hb;clear hr hb)
 go_ret
 exact⟨ret_bool (by rw [←HR.out]),HB.out⟩
theorem singular_any {K:Nat→Prop}{m:Nat}(p:PathT)(A:Option Addr)(c:Nat)(w:World)(hl:p.segs.length≤10000000)(h:SegsG K (ExR K m w) w (.slice A p.segs.length c) p.segs) :
  Calls Tryz.prog 123 #[.agg #[.bool p.abs,.slice A p.segs.length c]] w fun e w'=>e=.returned (.bool (singB p))∧Bel w.heap.size w w':=by
 obtain⟨ab,l⟩:=p
 simp only at h hl ⊢
 have hb0:Bel w.heap.size w (w.alloc (.cells #[.bool ab,.slice A l.length c] 37)):=(Bel.refl _ _).alloc (Nat.le_refl _) _
 have HC:=hH (containsFunc_any l A c _ hl (SegsG.bel rfl h hb0))
 have HB:=hH hb0
 have HE:=hH (show singB ⟨ab,l⟩=l.all segSing from rfl)
 clear h hb0
 go_enter Tryz.func123, Tryz.ntmps123
 go_wp2_with (go_at_call 126;refine HC.out.mono ?_;rintro e w2 ⟨rfl,hb⟩;have HB2:=hH (HB.out.next hb);clear hb)
 go_ret
 exact⟨ret_bool (by rw [HE.out]),HB2.out⟩
end
/- qtree: cmp (printed by gen_cmp2.py). -/
section
open Go.RowKit
set_option maxRecDepth 100000
set_option maxHeartbeats 4000000
section
variable  {E:Int}{P:Nat→PSt→ExprT×PSt}{d:Nat}
theorem segsL_len :∀(f:Nat) (t:PSt),(segsL E P d f t).1.length≤f
 | 0,_=>Nat.le_refl _
 | f+1,t=>by
  rw [segsL]
  split
  ·simp only [List.length_cons]
   have:=segsL_len f (segF E P d t).2
   omega
  ·exact Nat.zero_le _
theorem pathF_len (t:PSt):(pathF E P d t).1.segs.length≤t.toks.length :=
 Nat.le_trans (segsL_len _ _) (nextS_le E t)
theorem litS_len {t:PSt}{x:SideT}(h:litS t=some x):x.p.segs.length=0:=by
 unfold litS at h
 (repeat' split at h) <;> first|(cases h;rfl)|cases h
theorem sideF_len (t:PSt):(sideF E P d t).1.p.segs.length≤t.toks.length:=by
 unfold sideF
 split
 ·exact pathF_len t
 ·cases h:litS t with
  | none=>exact Nat.zero_le _
  | some x=>simp only;rw [litS_len h];exact Nat.zero_le _
end
theorem ExR.cmp {K:Nat→Prop}{m:Nat}{w:World}{o:Int}{a b:SideT}{lv rv:Value}(h1:SegsG K (ExR K m w) w lv a.p.segs)(h2:SegsG K (ExR K m w) w rv b.p.segs) :
  ExR K (m+1) w (exL ⟨4,[],path0,o,a,b⟩ (.slice none 0 0) (.slice none 0 0) lv rv) ⟨4,[],path0,o,a,b⟩ :=
 ⟨_,_,_,_,rfl,RowG.nil _ _ _ _,RowG.nil _ _ _ _,h1,h2⟩
theorem SegsG.kp {K K':Nat→Prop}{m n:Nat}{w w':World}{v:Value}{l:List SegT}(h:SegsG K (ExR K m w) w v l)(hk:Kp K K' w w')(hm:m≤n):SegsG K' (ExR K' n w') w' v l :=
 h.keep hk fun _ _ hx=>ExR.keep hk _ _ hm _ _ hx
theorem cmp_neg_true (g:Nat)(E:Int)(P:Nat→PSt→ExprT×PSt)(t:PSt)(d:Nat)(w:World)(h:RdS g E w t d)
  (hside:∀t w,RdS g E w t d→(d=33→t.fe≠0)→Calls Tryz.prog 121 #[.pointer (some ⟨g,0,none⟩)] w (SideP g E w (sideF E P d t) d)) (hf:d=33→t.fe≠0)
  (ka na:Int) (sa:List UInt8) (pa:Bool) (ga:List SegT) (t1:PSt) (hst:sideF E P d t=(⟨true,ka,na,sa,⟨pa,ga⟩⟩,t1)) (o:Int) (ho:opS t1=o) (hneg:o<0) :
  Calls Tryz.prog 117 #[.pointer (some ⟨g,0,none⟩)] w (ExP g E w (cmpF E P d t) d):=by
 have hg:=h.lt
 have HR0:=hH (h.alloc (.cells E0 92))
 have HX0:=hH (show Ex g w (w.alloc (.cells E0 92)) from(Ex.refl g w).alloc _)
 have HB0:=hH (Blk.new w 92 E0)
 have HS0:=hH (hside t _ HR0.out hf)
 have hln:=sideF_len (E:=E) (P:=P) (d:=d) t
 have htb:=h.bound
 rw [hst] at HS0 hln
 unfold SideP at HS0
 unfold E0 at HR0 HX0 HB0 HS0
 simp only at HS0 hln
 have HE:=hH (show cmpF E P d t=(tstE ⟨pa,ga⟩,formS E t1) by unfold cmpF;rw [hst];unfold cmp2;simp only;rw [if_pos (by omega)];rfl)
 clear h hst hside hf hln htb
 go_enter Tryz.func117, Tryz.ntmps117
 generalize hQ:bodyPost Tryz.prog Tryz.f117 (ExP g E w (cmpF E P d t) d)=Q
 have HQ:=hH hQ;clear hQ
 go_wp2_with fail
 refine HS0.out.mono ?_
 rintro e w1 ⟨m,A,c,rfl,hs,hr,hx⟩
 simp only at hs ⊢
 unfold sideV
 have HS1:=hH hs
 have hR1:=hr.alloc (.cells #[.bool true,.int .i64 ka,.int .i64 na,.string (bs sa),.bool pa,.slice A ga.length c] 90)
 have HR1:=hH hR1
 have HX1:=hH ((HX0.out.trans hx).alloc (.cells #[.bool true,.int .i64 ka,.int .i64 na,.string (bs sa),.bool pa,.slice A ga.length c] 90))
 have HB1:=hH ((HB0.out.ex hx (by omega)).alloc (.cells #[.bool true,.int .i64 ka,.int .i64 na,.string (bs sa),.bool pa,.slice A ga.length c] 90))
 have HA1:=hH (Blk.new w1 90 #[.bool true,.int .i64 ka,.int .i64 na,.string (bs sa),.bool pa,.slice A ga.length c])
 have HK1:=hH ((Kp.al (w:=w) (w':=w1) (o:=.cells E0 92)).alloc (.cells #[.bool true,.int .i64 ka,.int .i64 na,.string (bs sa),.bool pa,.slice A ga.length c] 90))
 have hw1:w.heap.size<w1.heap.size:=by have:=hx.size;simp at this;omega
 have HAT:=hH (at_any g E t1 d _ hR1)
 have HOP:=hH (op_any g E t1 d _ hR1)
 rw [ho] at HOP
 clear ho
 clear hs hR1 hr hx HS0 HB0 HX0 HR0
 go_wp2_with (first|(go_at_call 38;refine HAT.out.mono ?_;rintro e w' ⟨rfl,rfl⟩)|(go_at_call 122;refine HOP.out.mono ?_;rintro e w2 ⟨rfl,hr,hx⟩;have HR2:=hH hr;have HX2:=hH (HX1.out.trans hx);have HB2:=hH (HB1.out.ex hx (by omega));have HA2:=hH (HA1.out.ex hx (by omega));have HK2:=hH (HK1.out.ex hx (fun b hb _=>by have:=hb.al;omega));have HFM:=hH (form_any g E t1 d w2 hr);clear hr hx;obtain⟨xz,⟨x0,x1,x2,x3,x4,x5⟩,⟨xf0,xf1,xf2,xf3,xf4,xf5⟩⟩:=HA2.out.c6)|(go_at_call 20;refine HFM.out.mono ?_;rintro e w3 ⟨rfl,hr,hx⟩;clear xz x0 x1 x2 x3 x4 x5 xf0 xf1 xf2 xf3 xf4 xf5;have HR3:=hH hr;have HX3:=hH (HX2.out.trans hx);have HB3:=hH (HB2.out.ex hx (by omega));have HA3:=hH (HA2.out.ex hx (by omega));have HK3:=hH (HK2.out.ex hx (fun b hb _=>by have:=hb.al;omega));clear hr hx;obtain⟨xz,⟨x0,x1,x2,x3,x4,x5⟩,⟨xf0,xf1,xf2,xf3,xf4,xf5⟩⟩:=HA3.out.c6;obtain⟨z,⟨d0,d1,d2,d3,d4,d5,d6,d7,d8,d9,d10,d11,d12,d13,d14,d15,d16⟩,⟨f0,f1,f2,f3,f4,f5,f6,f7,f8,f9,f10,f11,f12,f13,f14,f15,f16⟩⟩:=HB3.out.c17))
 rw [←HQ.out,HE.out]
 refine bodyPost_ret (v:=exV (tstE ⟨pa,ga⟩) (.slice none 0 0) (.slice A ga.length c) (.slice none 0 0) (.slice none 0 0)) (results_cell_row (by rfl) _ _ w.heap.size _ _ _ _ (by rfl) (show Blk _ w.heap.size 92 _ from HB3.out.put17) Tryz.underlying92 (by rfl) (by kernel_rfl)) rfl ⟨m+1,_,_,_,_,rfl,ExR.tst (HS1.out.kp (HK3.out.far17 (fun b hb _=>by have:=hb.al;omega)) (Nat.le_refl _)),HR3.out.far17 hg,HX3.out.far17 (Nat.le_refl _)⟩
theorem cmp_neg_false (g:Nat)(E:Int)(P:Nat→PSt→ExprT×PSt)(t:PSt)(d:Nat)(w:World)(h:RdS g E w t d)
  (hside:∀t w,RdS g E w t d→(d=33→t.fe≠0)→Calls Tryz.prog 121 #[.pointer (some ⟨g,0,none⟩)] w (SideP g E w (sideF E P d t) d)) (hf:d=33→t.fe≠0)
  (ka na:Int) (sa:List UInt8) (pa:Bool) (ga:List SegT) (t1:PSt) (hst:sideF E P d t=(⟨false,ka,na,sa,⟨pa,ga⟩⟩,t1)) (o:Int) (ho:opS t1=o) (hneg:o<0) :
  Calls Tryz.prog 117 #[.pointer (some ⟨g,0,none⟩)] w (ExP g E w (cmpF E P d t) d):=by
 have hg:=h.lt
 have HR0:=hH (h.alloc (.cells E0 92))
 have HX0:=hH (show Ex g w (w.alloc (.cells E0 92)) from(Ex.refl g w).alloc _)
 have HB0:=hH (Blk.new w 92 E0)
 have HS0:=hH (hside t _ HR0.out hf)
 have hln:=sideF_len (E:=E) (P:=P) (d:=d) t
 have htb:=h.bound
 rw [hst] at HS0 hln
 unfold SideP at HS0
 unfold E0 at HR0 HX0 HB0 HS0
 simp only at HS0 hln
 have HE:=hH (show cmpF E P d t=(tstE ⟨pa,ga⟩,t1) by unfold cmpF;rw [hst];unfold cmp2;simp only;rw [if_pos (by omega)];rfl)
 clear h hst hside hf hln htb
 go_enter Tryz.func117, Tryz.ntmps117
 generalize hQ:bodyPost Tryz.prog Tryz.f117 (ExP g E w (cmpF E P d t) d)=Q
 have HQ:=hH hQ;clear hQ
 go_wp2_with fail
 refine HS0.out.mono ?_
 rintro e w1 ⟨m,A,c,rfl,hs,hr,hx⟩
 simp only at hs ⊢
 unfold sideV
 have HS1:=hH hs
 have hR1:=hr.alloc (.cells #[.bool false,.int .i64 ka,.int .i64 na,.string (bs sa),.bool pa,.slice A ga.length c] 90)
 have HR1:=hH hR1
 have HX1:=hH ((HX0.out.trans hx).alloc (.cells #[.bool false,.int .i64 ka,.int .i64 na,.string (bs sa),.bool pa,.slice A ga.length c] 90))
 have HB1:=hH ((HB0.out.ex hx (by omega)).alloc (.cells #[.bool false,.int .i64 ka,.int .i64 na,.string (bs sa),.bool pa,.slice A ga.length c] 90))
 have HA1:=hH (Blk.new w1 90 #[.bool false,.int .i64 ka,.int .i64 na,.string (bs sa),.bool pa,.slice A ga.length c])
 have HK1:=hH ((Kp.al (w:=w) (w':=w1) (o:=.cells E0 92)).alloc (.cells #[.bool false,.int .i64 ka,.int .i64 na,.string (bs sa),.bool pa,.slice A ga.length c] 90))
 have hw1:w.heap.size<w1.heap.size:=by have:=hx.size;simp at this;omega
 have HAT:=hH (at_any g E t1 d _ hR1)
 have HOP:=hH (op_any g E t1 d _ hR1)
 rw [ho] at HOP
 clear ho
 clear hs hR1 hr hx HS0 HB0 HX0 HR0
 go_wp2_with (first|(go_at_call 38;refine HAT.out.mono ?_;rintro e w' ⟨rfl,rfl⟩)|(go_at_call 122;refine HOP.out.mono ?_;rintro e w2 ⟨rfl,hr,hx⟩;have HR2:=hH hr;have HX2:=hH (HX1.out.trans hx);have HB2:=hH (HB1.out.ex hx (by omega));have HA2:=hH (HA1.out.ex hx (by omega));have HK2:=hH (HK1.out.ex hx (fun b hb _=>by have:=hb.al;omega));have HFM:=hH (form_any g E t1 d w2 hr);clear hr hx;obtain⟨xz,⟨x0,x1,x2,x3,x4,x5⟩,⟨xf0,xf1,xf2,xf3,xf4,xf5⟩⟩:=HA2.out.c6;obtain⟨z,⟨d0,d1,d2,d3,d4,d5,d6,d7,d8,d9,d10,d11,d12,d13,d14,d15,d16⟩,⟨f0,f1,f2,f3,f4,f5,f6,f7,f8,f9,f10,f11,f12,f13,f14,f15,f16⟩⟩:=HB2.out.c17))
 rw [←HQ.out,HE.out]
 refine bodyPost_ret (v:=exV (tstE ⟨pa,ga⟩) (.slice none 0 0) (.slice A ga.length c) (.slice none 0 0) (.slice none 0 0)) (results_cell_row (by rfl) _ _ w.heap.size _ _ _ _ (by rfl) (show Blk _ w.heap.size 92 _ from HB2.out.put17) Tryz.underlying92 (by rfl) (by kernel_rfl)) rfl ⟨m+1,_,_,_,_,rfl,ExR.tst (HS1.out.kp (HK2.out.far17 (fun b hb _=>by have:=hb.al;omega)) (Nat.le_refl _)),HR2.out.far17 hg,HX2.out.far17 (Nat.le_refl _)⟩
theorem cmp_neg (g:Nat)(E:Int)(P:Nat→PSt→ExprT×PSt)(t:PSt)(d:Nat)(w:World)(h:RdS g E w t d)
  (hside:∀t w,RdS g E w t d→(d=33→t.fe≠0)→Calls Tryz.prog 121 #[.pointer (some ⟨g,0,none⟩)] w (SideP g E w (sideF E P d t) d)) (hf:d=33→t.fe≠0)
  (a:SideT) (t1:PSt) (hst:sideF E P d t=(a,t1)) (hneg:opS t1<0) :
  Calls Tryz.prog 117 #[.pointer (some ⟨g,0,none⟩)] w (ExP g E w (cmpF E P d t) d):=by
 obtain⟨al,ka,na,sa,pa,ga⟩:=a
 cases al
 ·exact cmp_neg_false g E P t d w h hside hf ka na sa pa ga t1 hst _ rfl hneg
 ·exact cmp_neg_true g E P t d w h hside hf ka na sa pa ga t1 hst _ rfl hneg
end

end Go.Proofs.YtjbdcjcfijjiiaaGreatDoor

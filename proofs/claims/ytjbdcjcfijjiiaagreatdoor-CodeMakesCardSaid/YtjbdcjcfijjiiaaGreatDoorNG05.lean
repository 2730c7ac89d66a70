/- NG05: Ud, Fl, Uq joined. -/
import Derived.Test.YtjbdcjcfijjiiaaGreatDoorNG04
import Derived.Test.YtjbdcjcfijjiiaaGreatDoorNA0
namespace Go.Proofs.YtjbdcjcfijjiiaaGreatDoor
open Go.RowKit
/- qlex: QlexOrder's law on lists; plain. -/
section
def ordL (w:List UInt8):Nat→List TokD→Bool
 | _,[]=>true
 | from_,x::r =>
  if x.at_<from_∨w.length≤x.at_∨(x.gap=true∧x.at_=from_) then false
  else if x.kind=1∨x.kind=2 then
   (if x.s.length=0∨w.length-x.at_<x.s.length∨(w.drop x.at_).take x.s.length≠x.s then false else ordL w (x.at_+x.s.length) r)
  else ordL w (x.at_+1) r
theorem bkN_le :∀l:List UInt8,bkN l≤l.length
 | []=>by simp [bkN]
 | c::r=>by have:=bkN_le r;unfold bkN;split <;> simp <;> omega
theorem bkN_lt (u:List UInt8)(h:u.drop (bkN u)≠[]):bkN u<u.length:=by
 have:=bkN_le u
 rcases Nat.lt_or_ge (bkN u) u.length with h1|h1
 ·exact h1
 ·exact absurd (List.drop_eq_nil_of_le h1) h
theorem lexF_step (f a:Nat)(u:List UInt8)(h:u≠[]):lexF (f+1) a u =
  if 0<bkN u∧(a=0∨u.drop (bkN u)=[]) then .error (3,a)
  else match tokT (u.drop (bkN u)) with
   | .error e=>.error (e,a+bkN u)
   | .ok (k,t,v,n) =>
    match lexF f (a+bkN u+n) ((u.drop (bkN u)).drop n) with
    | .error e=>.error e
    | .ok r=>.ok (⟨k,t,v,a+bkN u,decide (0<bkN u)⟩::r):=by
 rw [lexF,if_neg h]
 try rfl
theorem lexF_nil (f a:Nat):lexF f a []=.ok []:=by cases f <;> simp [lexF]
theorem rest_ne (u:List UInt8)(a:Nat)(h:u≠[])(hc:¬(0<bkN u∧(a=0∨u.drop (bkN u)=[]))):u.drop (bkN u)≠[]:=by
 rcases Nat.eq_zero_or_pos (bkN u) with h0|h0
 ·rw [h0];exact h
 ·exact fun e=>hc ⟨h0,.inr e⟩
theorem lexF_ord (w:List UInt8):∀(f a from_:Nat) (toks:List TokD),from_≤a→lexF f a (w.drop a)=.ok toks→ordL w from_ toks=true
 | 0,_,_,toks,_,h=>by simp [lexF] at h;subst h;rfl
 | f+1,a,from_,toks,hfa,h=>by
  by_cases hu:w.drop a=[]
  ·rw [hu,lexF_nil] at h;cases h;rfl
  ·rw [lexF_step f a _ hu] at h
   split at h
   ·cases h
   ·rename_i hc
    have hne:=rest_ne _ a hu hc
    have hlt:=bkN_lt _ hne
    rw [List.length_drop] at hlt
    cases ht:tokT ((w.drop a).drop (bkN (w.drop a))) with
    | error e=>rw [ht] at h;cases h
    | ok x =>
     obtain⟨k,t,v,n⟩:=x
     rw [ht] at h
     simp only at h
     have hok:=tokT_ok _ k t v n ht
     cases hr:lexF f (a+bkN (w.drop a)+n) (((w.drop a).drop (bkN (w.drop a))).drop n) with
     | error e=>rw [hr] at h;cases h
     | ok r =>
      rw [hr] at h
      simp only [Except.ok.injEq] at h
      subst h
      obtain⟨hn,hl,hs⟩:=hok
      rw [List.drop_drop,List.drop_drop,←Nat.add_assoc] at hr
      rw [List.drop_drop] at hl hs
      rw [List.length_drop] at hl
      rw [ordL,if_neg (by simp only [decide_eq_true_eq];omega)]
      by_cases hk:k=1∨k=2
      ·rw [if_pos hk]
       obtain⟨h1,h2⟩:=hs hk
       rw [if_neg (by
        simp only [h2]
        intro hh
        rcases hh with hh|hh|hh
        ·omega
        ·omega
        ·exact hh h1.symm),h2]
       exact lexF_ord w f _ _ r (Nat.le_refl _) hr
      ·rw [if_neg hk]
       exact lexF_ord w f (a+bkN (w.drop a)+n) _ r (by show a+bkN (w.drop a)+1≤_;omega) hr
theorem lexF_err (w:List UInt8):∀(f a:Nat) (e:Int×Nat),a≤w.length→lexF f a (w.drop a)=.error e→e.2≤w.length
 | 0,_,e,_,h=>by simp [lexF] at h
 | f+1,a,e,hal,h=>by
  by_cases hu:w.drop a=[]
  ·rw [hu,lexF_nil] at h;cases h
  ·rw [lexF_step f a _ hu] at h
   have hb:=bkN_le (w.drop a)
   rw [List.length_drop] at hb
   split at h
   ·cases h;exact hal
   ·cases ht:tokT ((w.drop a).drop (bkN (w.drop a))) with
    | error e'=>rw [ht] at h;cases h;show a+bkN (w.drop a)≤_;omega
    | ok x =>
     obtain⟨k,t,v,n⟩:=x
     rw [ht] at h
     simp only at h
     obtain⟨hn,hl,hs⟩:=tokT_ok _ k t v n ht
     cases hr:lexF f (a+bkN (w.drop a)+n) (((w.drop a).drop (bkN (w.drop a))).drop n) with
     | error e' =>
      rw [hr] at h
      simp only [Except.error.injEq] at h
      subst h
      rw [List.drop_drop,List.drop_drop,←Nat.add_assoc] at hr
      rw [List.drop_drop,List.length_drop] at hl
      exact lexF_err w f (a+bkN (w.drop a)+n) _ (by omega) hr
     | ok r=>rw [hr] at h;cases h
theorem lex_order (w:List UInt8):match lexL w with|.error e=>e.2≤w.length|.ok r=>ordL w 0 r=true∧r≠[]:=by
 unfold lexL
 split
 ·rename_i e he
  split at he
  ·cases he;simp
  ·split at he
   ·rename_i e' hf
    cases he
    have:=lexF_err w (w.length+1) 0 e (by omega) (by simpa using hf)
    exact this
   ·cases he;simp
   ·cases he
 ·rename_i r he
  split at he
  ·cases he
  ·split at he
   ·cases he
   ·cases he
   ·rename_i hne hf
    cases he
    exact⟨lexF_ord w (w.length+1) 0 0 _ (by omega) (by simpa using hf),fun e=>hne e⟩
end
/- Slices of structs as flat rows; no word of a dump. -/
section
open Go.RowKit
theorem flat_len {α:Type}(f:α→List Value)(k:Nat)(hk:∀x,(f x).length=k):∀l:List α,(l.flatMap f).length=l.length*k
 | []=>by simp
 | x::l=>by rw [List.flatMap_cons,List.length_append,hk,flat_len f k hk l,List.length_cons,Nat.add_mul];omega
theorem flat_get {α:Type}(f:α→List Value)(k:Nat)(hk:∀x,(f x).length=k):∀(l:List α) (i j:Nat),j<k→(l.flatMap f)[i*k+j]? = (l[i]?).bind (fun x=>(f x)[j]?)
 | [],i,j,_=>by simp
 | x::l,0,j,hj=>by
  rw [List.flatMap_cons,List.getElem?_append_left (by rw [hk];omega)];simp
 | x::l,i+1,j,hj=>by
  rw [List.flatMap_cons,List.getElem?_append_right (by rw [hk,Nat.add_mul];omega),hk,show (i+1)*k+j-k=i*k+j by rw [Nat.add_mul];omega,flat_get f k hk l i j hj]
  simp
theorem add_lit (b off n:Nat):(⟨b,off,none⟩:Addr).add n=⟨b,off+n,none⟩:=by
 unfold Addr.add;by_cases h:n=0 <;> simp [h]
theorem reads_flat {α:Type}(f:α→List Value)(k:Nat)(hk:∀x,(f x).length=k)(hk0:0<k)(w:World)(A:Option Addr)(l:List α)
  (h:l=[]∨∃b off,A=some ⟨b,off,none⟩∧b<w.heap.size∧∀(i:Nat) (x:α),l[i]? = some x→∀j u,(f x)[j]? = some u→w.cell? ⟨b,off+i*k+j,none⟩=some u) :
  Reads w w.heap.size k A l.length (l.flatMap f):=by
 refine⟨flat_len f k hk l,fun hn=>?_⟩
 obtain⟨b,off,rfl,hb,hc⟩:=h.resolve_left (by intro e;rw [e] at hn;simp at hn)
 refine⟨_,rfl,hb,fun j u hu=>?_⟩
 have hj:j % k<k:=Nat.mod_lt _ hk0
 have hd:j / k*k+j % k=j:=Nat.div_add_mod' j k
 rw [←hd,flat_get f k hk l (j / k) (j % k) hj] at hu
 obtain⟨x,hx,hu2⟩:=Option.bind_eq_some_iff.1 hu
 rw [add_lit,←hd,←Nat.add_assoc]
 exact hc (j / k) x hx (j % k) u hu2
theorem own_flat {α:Type}(f:α→List Value)(k:Nat)(hk:∀x,(f x).length=k)(w:World)(base n:Nat)(e:TypeId)(v:Value)(l:List α)(h:w.ownsRow base e k v n (l.flatMap f))(hn:n=l.length) :
  ∃A cap,v=.slice A l.length cap∧l.length≤cap∧(l=[]∨∃b off,A=some ⟨b,off,none⟩∧base≤b∧b<w.heap.size∧∀(i:Nat) (x:α),l[i]? = some x→∀j u,j<k→(f x)[j]? = some u→w.cell? ⟨b,off+i*k+j,none⟩=some u):=by
 subst hn
 have h2:=h.2
 rcases h2 with⟨rfl,h0⟩|⟨g,cap,cur,rfl,hbs,hg,hle,_⟩
 ·exact⟨none,0,by rw [h0],by omega,.inl (List.eq_nil_of_length_eq_zero h0)⟩
 ·refine⟨some ⟨g,0,none⟩,cap,rfl,hle,.inr ⟨g,0,rfl,hbs,(Array.getElem?_eq_some_iff.1 hg).1,fun i x hx j u hj hu=>?_⟩⟩
  have:=h.cells (g:=g) rfl (i*k+j) u (by rw [flat_get f k hk l i j hj,hx];exact hu)
  rw [add_lit] at this
  rw [show 0+i*k+j=0+(i*k+j) by omega];exact this
theorem Blk.new1 (w:World)(o:Obj)(t:TypeId)(cs:Array Value):Blk ((w.alloc o).alloc (.cells cs t)) (w.heap.size+1) t cs:=by
 have:=Blk.new (w.alloc o) t cs;simpa using this
theorem reads_new (w:World)(e:TypeId)(k m:Nat)(xs:List Value)(h:xs.length=m*k):Reads (w.alloc (.cells xs.toArray e)) (w.heap.size+1) k (some ⟨w.heap.size,0,none⟩) m xs :=
 ⟨h,fun _=>⟨_,rfl,by show w.heap.size<_;omega,fun j u hu=>by
  rw [add_lit,(Blk.new w e xs.toArray).cell];simpa using hu⟩⟩
end
/- Tokens in memory, Lex's laws step by step (words of the dump: types alone). -/
section
open Go.RowKit
def sgC :List Value:=signsL.map fun l=>.string (bs l)
def sgA :Array Value:=sgC.toArray
theorem sgA_get (i:Nat)(h:i<21):sgA[i]? = some (.string (bs (signsL[i]'(by rw [sg_len];exact h)))):=by
 unfold sgA sgC
 rw [List.getElem?_toArray,List.getElem?_map,List.getElem?_eq_getElem (by rw [sg_len];exact h)];rfl
theorem u8_ne {c:UInt8}{n:Nat}(h:¬c=UInt8.ofNat n)(hn:n<256):((c.toNat:Int)==(n:Int))=false:=by
 rw [beq_eq_false_iff_ne];intro e;apply h;rw [←UInt8.toNat_inj];simp;omega
theorem bel_set5 {w w2:World}{u0 u1 u2 u3 u4:Value}{o:Obj}(h:Bel (w.alloc o).heap.size (w.alloc o) w2) :
  Bel w.heap.size w (((((w2.setCell ⟨w.heap.size,0,none⟩ u0).setCell ⟨w.heap.size,1,none⟩ u1).setCell ⟨w.heap.size,2,none⟩ u2).setCell ⟨w.heap.size,3,none⟩ u3).setCell ⟨w.heap.size,4,none⟩ u4):=by
 have h1:Bel w.heap.size w w2:=((Bel.refl w.heap.size w).alloc (Nat.le_refl _) _).trans (h.mono (show w.heap.size≤_ by simp))
 exact((((h1.setCell (Nat.le_refl _) _).setCell (Nat.le_refl _) _).setCell (Nat.le_refl _) _).setCell (Nat.le_refl _) _).setCell (Nat.le_refl _) _
theorem bel_lit {w:World}{o:Obj}:Bel w.heap.size w (w.alloc o):=(Bel.refl w.heap.size w).alloc (Nat.le_refl _) _
theorem bel_lit2 {w:World}{o o2:Obj}:Bel w.heap.size w ((w.alloc o).alloc o2):=bel_lit.alloc (by simp) _
theorem Blk.two {w:World}{g:Nat}{t:TypeId}{a b:Value}(h:Blk w g t #[a,b]):g<w.heap.size∧(w.cell? ⟨g,0,none⟩=some a∧w.cell? ⟨g,1,none⟩=some b)∧w.frozen? ⟨g,0,none⟩=false∧w.frozen? ⟨g,1,none⟩=false :=
 ⟨h.lt,⟨h.cell 0,h.cell 1⟩,h.frozen 0,h.frozen 1⟩
def tokC (x:TokD):List Value:=[.int .i64 x.kind,.string (bs x.s),.int .i64 x.n,.int .i64 (x.at_:Nat),.bool x.gap]
theorem tokC_len (x:TokD):(tokC x).length=5:=rfl
theorem info_tok :(Tryz.prog.info? 72).map (fun i=>(i.zero,i.size,i.bytes))=some (some (.agg #[.int .i64 0,.string ⟨#[]⟩,.int .i64 0,.int .i64 0,.bool false]),5,48):=by kernel_rfl
def LX (w wr:World)(v:Value)(toks:List TokD):Prop :=
 Blk wr w.heap.size 31 #[.int .i64 0,.int .i64 0]∧wr.ownsRow (w.heap.size+1) 72 5 v toks.length (toks.flatMap tokC)∧Bel w.heap.size w wr∧w.heap.size<wr.heap.size
theorem LX.start (w:World):LX w (w.alloc (.cells #[.int .i64 0,.int .i64 0] 31)) (.slice none 0 0) [] :=
 ⟨Blk.new _ _ _,World.ownsRow_nil _ _ _ _,(Bel.refl _ _).alloc (Nat.le_refl _) _,by simp⟩
theorem LX.bel {w wr w2:World}{v:Value}{toks:List TokD}(h:LX w wr v toks)(hb:Bel wr.heap.size wr w2):LX w w2 v toks :=
 ⟨h.1.bel hb h.1.lt,ownsRow_bel h.2.1 hb (Nat.le_refl _),h.2.2.1.next hb,Nat.lt_of_lt_of_le h.2.2.2 hb.size⟩
theorem LX.grown {w wr w2:World}{v v':Value}{toks:List TokD}{x:TokD}(h:LX w wr v toks)(h1:w2.ownsRow (w.heap.size+1) 72 5 v' (toks.length+1) (toks.flatMap tokC++tokC x))(h2:wr.grownBy w2 v.ownBlock):LX w w2 v' (toks++[x]):=by
 have hk:∀k,v.ownBlock=some k→w.heap.size+1≤k:=fun k hk=>(h.2.1.lt k hk).1
 have hb:Bel (w.heap.size+1) wr w2:=grown_bel h2 h.2.2.2 hk
 refine⟨h.1.bel hb (by omega),?_,h.2.2.1.trans (hb.mono (by omega)),Nat.lt_of_lt_of_le h.2.2.2 hb.size⟩
 rw [List.length_append,List.flatMap_append,List.length_singleton]
 simpa using h1
theorem LX.store {w wr:World}{v:Value}{toks:List TokD}(h:LX w wr v toks)(a b:Value):((wr.setCell ⟨w.heap.size,0,none⟩ a).setCell ⟨w.heap.size,1,none⟩ b).ownsRow (w.heap.size+1) 72 5 v toks.length (toks.flatMap tokC):=by
 have key:∀k,w.heap.size<k→((wr.setCell ⟨w.heap.size,0,none⟩ a).setCell ⟨w.heap.size,1,none⟩ b).heap[k]? = wr.heap[k]?:=fun k hk =>
  (Below.heap_setCell _ ⟨w.heap.size,1,none⟩ _ k (by show k≠w.heap.size;omega)).trans (Below.heap_setCell _ ⟨w.heap.size,0,none⟩ _ k (by show k≠w.heap.size;omega))
 refine⟨h.2.1.1,?_⟩
 rcases h.2.1.2 with h'|⟨g,cap,cur,h1,h2,h3,h4⟩
 ·exact .inl h'
 ·exact .inr ⟨g,cap,cur,h1,h2,(key g (by omega)).trans h3,h4⟩
theorem LX.stored {w wr:World}{v:Value}{toks:List TokD}(h:LX w wr v toks)(a b:Value):Bel w.heap.size w ((wr.setCell ⟨w.heap.size,0,none⟩ a).setCell ⟨w.heap.size,1,none⟩ b) :=
 (h.2.2.1.setCell (Nat.le_refl _) _).setCell (Nat.le_refl _) _
def pref (toks:List TokD)(r:Except (Int×Nat) (List TokD)):Except (Int×Nat) (List TokD):=match r with|.error e=>.error e|.ok l=>.ok (toks++l)
theorem pref_nil (r:Except (Int×Nat) (List TokD)):pref [] r=r:=by cases r <;> rfl
theorem lex_stop {s:ByteArray}{f a:Nat}{toks:List TokD}(h:s.size≤a):pref toks (lexF f a (dr s a))=.ok toks:=by
 rw [show dr s a=[] from drop_nil s a h]
 cases f <;> simp [lexF,pref]
theorem dr_ne {s:ByteArray}{a:Nat}(h:a<s.size):dr s a≠[]:=by rw [dr,drop_cons s a h];simp
theorem dr_nil_iff (s:ByteArray)(a:Nat):dr s a=[]↔s.size≤a:=by
 constructor
 ·intro h;rcases Nat.lt_or_ge a s.size with h'|h'
  ·exact absurd h (dr_ne h')
  ·exact h'
 ·intro h;exact drop_nil s a h
theorem lex_gap {s:ByteArray}{f a:Nat}{toks:List TokD}(h:a<s.size)(hg:0<bkN (dr s a))(h1:a=0∨s.size≤a+bkN (dr s a)):pref toks (lexF (f+1) a (dr s a))=.error (3,a):=by
 rw [lexF,if_neg (dr_ne h),dr_dr,if_pos ⟨hg,h1.imp id (fun h=>(dr_nil_iff s _).2 h)⟩];rfl
theorem lex_err {s:ByteArray}{f a g:Nat}{toks:List TokD}{e:Int}(h:a<s.size)(hg:bkN (dr s a)=g)(h1:¬(0<g∧(a=0∨s.size≤a+g)))(ht:tokT (dr s (a+g))=.error e):pref toks (lexF (f+1) a (dr s a))=.error (e,a+g):=by
 rw [lexF,if_neg (dr_ne h),dr_dr,hg,if_neg (fun hh=>h1 ⟨hh.1,hh.2.imp id (fun h=>(dr_nil_iff s _).1 h)⟩),ht];rfl
theorem lex_go {s:ByteArray}{f a g:Nat}{toks:List TokD}{k v:Int}{t:List UInt8}{n:Nat}(h:a<s.size)(hg:bkN (dr s a)=g)(h1:¬(0<g∧(a=0∨s.size≤a+g)))(ht:tokT (dr s (a+g))=.ok (k,t,v,n)) :
  pref toks (lexF (f+1) a (dr s a))=pref (toks++[⟨k,t,v,a+g,decide (0<g)⟩]) (lexF f (a+g+n) (dr s (a+g+n))):=by
 rw [lexF,if_neg (dr_ne h),dr_dr,hg,if_neg (fun hh=>h1 ⟨hh.1,hh.2.imp id (fun h=>(dr_nil_iff s _).1 h)⟩),ht]
 simp only [dr_dr]
 cases lexF f (a+g+n) (dr s (a+g+n)) with
 | error e=>rfl
 | ok r=>simp [pref]
theorem lexL_long {l:List UInt8}(h:4096<l.length):lexL l=.error (4,0):=by unfold lexL;rw [if_pos h]
theorem lexL_err {l:List UInt8}{e:Int×Nat}(h:¬4096<l.length)(hf:lexF (l.length+1) 0 l=.error e):lexL l=.error e:=by unfold lexL;rw [if_neg h,hf]
theorem lexL_nil {l:List UInt8}(h:¬4096<l.length)(hf:lexF (l.length+1) 0 l=.ok []):lexL l=.error (3,0):=by unfold lexL;rw [if_neg h,hf]
theorem lexL_ok {l:List UInt8}{toks:List TokD}(h:¬4096<l.length)(hf:lexF (l.length+1) 0 l=.ok toks)(hn:toks≠[]):lexL l=.ok toks:=by
 unfold lexL;rw [if_neg h,hf]
 cases toks with
 | nil=>exact absurd rfl hn
 | cons=>rfl
theorem num_err (P Q:Prop) [Decidable P] [Decidable Q] (a:Int×Nat) (x:Int) (h:(if P then (.error 3:Except Int (Int×Nat)) else if Q then .error 6 else .ok a)=.error x):x=3∨x=6:=by
 by_cases hp:P
 ·rw [if_pos hp] at h;injection h with h;exact .inl h.symm
 ·rw [if_neg hp] at h
  by_cases hq:Q
  ·rw [if_pos hq] at h;injection h with h;exact .inr h.symm
  ·rw [if_neg hq] at h;cases h
theorem tokT_err {l:List UInt8}{e:Int}(h:tokT l=.error e):(e==0)=false∧(e != 0)=true:=by
 have key:e=3∨e=6:=by
  unfold tokT at h
  cases l with
  | nil=>simp only [Except.error.injEq] at h;omega
  | cons c r =>
   simp only at h
   split at h
   ·split at h
    ·cases h
    ·simp only [Except.error.injEq] at h;omega
   ·split at h
    ·cases hn:numT (c::r) with
     | ok vn=>rw [hn] at h;cases h
     | error x =>
      rw [hn] at h
      simp only [Except.error.injEq] at h
      unfold numT at hn
      rw [←h];exact num_err _ _ _ _ hn
    ·split at h
     ·cases h
     ·split at h
      ·cases h
      ·simp only [Except.error.injEq] at h;omega
 rcases key with rfl|rfl <;> exact⟨rfl,rfl⟩
theorem ordL_cons {l:List UInt8}{from_:Nat}{x:TokD}{r:List TokD}(h:ordL l from_ (x::r)=true) :
  from_≤x.at_∧x.at_<l.length∧(x.gap=true→x.at_≠from_)∧
  (if x.kind=1∨x.kind=2 then 0<x.s.length∧x.s.length≤l.length-x.at_∧(l.drop x.at_).take x.s.length=x.s∧ordL l (x.at_+x.s.length) r=true else ordL l (x.at_+1) r=true):=by
 rw [ordL] at h
 by_cases h1:x.at_<from_∨l.length≤x.at_∨(x.gap=true∧x.at_=from_)
 ·rw [if_pos h1] at h;cases h
 ·rw [if_neg h1] at h
  refine⟨by omega,by omega,fun hg he=>h1 (.inr (.inr ⟨hg,he⟩)),?_⟩
  by_cases h2:x.kind=1∨x.kind=2
  ·rw [if_pos h2] at h ⊢
   by_cases h3:x.s.length=0∨l.length-x.at_<x.s.length∨(l.drop x.at_).take x.s.length≠x.s
   ·rw [if_pos h3] at h;cases h
   ·rw [if_neg h3] at h
    exact⟨by omega,by omega,Classical.byContradiction fun hc=>h3 (.inr (.inr hc)),h⟩
  ·rw [if_neg h2] at h ⊢;exact h
theorem ordL_len {l:List UInt8}:∀(r:List TokD) (fr:Nat),ordL l fr r=true→r.length≤l.length-fr
 | [],_,_=>by simp
 | x::r,fr,h=>by
  obtain⟨h1,h2,_,h3⟩:=ordL_cons h
  split at h3
  ·have:=ordL_len r _ h3.2.2.2;simp;omega
  ·have:=ordL_len r _ h3;simp;omega
theorem ext_mid (s:ByteArray)(a n:Nat):(s.extract a (a+n)).data.toList=(dr s a).take n:=by
 simp [ByteArray.data_extract,List.extract_eq_take_drop,dr]
def TkR (w:World)(A:Option Addr)(toks:List TokD):Prop :=
 toks=[]∨∃b off,A=some ⟨b,off,none⟩∧b<w.heap.size∧∀(i:Nat) (x:TokD),toks[i]? = some x→w.cell? ⟨b,off+i*5,none⟩=some (.int .i64 x.kind)∧w.cell? ⟨b,off+i*5+1,none⟩=some (.string (bs x.s))∧w.cell? ⟨b,off+i*5+2,none⟩=some (.int .i64 x.n)∧w.cell? ⟨b,off+i*5+3,none⟩=some (.int .i64 (x.at_:Nat))∧w.cell? ⟨b,off+i*5+4,none⟩=some (.bool x.gap)
theorem tok_own {w:World}{base n:Nat}{e:TypeId}{v:Value}{l:List TokD}(h:w.ownsRow base e 5 v n (l.flatMap tokC))(hn:n=l.length):∃A cap,v=.slice A l.length cap∧l.length≤cap∧TkR w A l:=by
 obtain⟨A,cap,h1,h2,h3⟩:=own_flat tokC 5 tokC_len w base n e v l h hn
 refine⟨A,cap,h1,h2,h3.imp id ?_⟩
 rintro ⟨b,off,e,_,hb,hc⟩
 exact⟨b,off,e,hb,fun i x hx=>⟨hc i x hx 0 _ (by omega) rfl,hc i x hx 1 _ (by omega) rfl,hc i x hx 2 _ (by omega) rfl,hc i x hx 3 _ (by omega) rfl,hc i x hx 4 _ (by omega) rfl⟩⟩
theorem TkR.bel {w w2:World}{A:Option Addr}{toks:List TokD}(h:TkR w A toks)(hb:Bel w.heap.size w w2):TkR w2 A toks:=by
 refine h.imp id ?_
 rintro ⟨b,off,e,hlt,hc⟩
 refine⟨b,off,e,Nat.lt_of_lt_of_le hlt hb.size,fun i x hx=>?_⟩
 obtain⟨h0,h1,h2,h3,h4⟩:=hc i x hx
 exact⟨(hb.cell (p:=⟨b,_,none⟩) hlt).trans h0,(hb.cell (p:=⟨b,_,none⟩) hlt).trans h1,(hb.cell (p:=⟨b,_,none⟩) hlt).trans h2,(hb.cell (p:=⟨b,_,none⟩) hlt).trans h3,(hb.cell (p:=⟨b,_,none⟩) hlt).trans h4⟩
def LexP (l:List UInt8)(w:World)(e:Ending)(w':World):Prop :=
 (match lexL l with
  | .error (x,a)=>e=.returned (.tuple #[.slice none 0 0,.agg #[.int .i64 x,.int .i64 ((a:Nat):Int)]])
  | .ok toks=>∃v,e=.returned (.tuple #[v,.agg #[.int .i64 0,.int .i64 0]])∧w'.ownsRow (w.heap.size+1) 72 5 v toks.length (toks.flatMap tokC))∧Bel w.heap.size w w'
theorem LexP.no {l:List UInt8}{w w':World}{x:Int}{a:Nat}(h:lexL l=.error (x,a))(hb:Bel w.heap.size w w'):LexP l w (.returned (.tuple #[.slice none 0 0,.agg #[.int .i64 x,.int .i64 ((a:Nat):Int)]])) w':=by
 unfold LexP;rw [h];exact⟨rfl,hb⟩
theorem LexP.yes {l:List UInt8}{w w':World}{toks:List TokD}{v:Value}(h:lexL l=.ok toks)(hv:w'.ownsRow (w.heap.size+1) 72 5 v toks.length (toks.flatMap tokC))(hb:Bel w.heap.size w w'):LexP l w (.returned (.tuple #[v,.agg #[.int .i64 0,.int .i64 0]])) w':=by
 unfold LexP;rw [h];exact⟨⟨v,rfl,hv⟩,hb⟩
end

end Go.Proofs.YtjbdcjcfijjiiaaGreatDoor

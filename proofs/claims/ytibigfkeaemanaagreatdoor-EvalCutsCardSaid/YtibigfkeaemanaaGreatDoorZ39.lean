import Derived.Test.YtibigfkeaemanaaGreatDoorRows
import GoSem.ClaimGoes
import GoSem.ClaimJoined
import GoSem.ClaimOpen
import Derived.Test.YtibigfkeaemanaaGreatDoorZ8
import Derived.Test.YtibigfkeaemanaaGreatDoorZ21
import Derived.Test.YtibigfkeaemanaaGreatDoorZ37
import Derived.Test.YtibigfkeaemanaaGreatDoorZ38
set_option linter.unusedVariables false
set_option linter.unusedSimpArgs false
section
namespace Go.Lang
open Go.Lib
set_option maxRecDepth 100000
theorem boundV_of {n:Int} (h1:-1099511627776 ≤ n) (h2:n ≤ 1099511627776):boundV n=n:=by unfold boundV maxNum;omega
def cutV (s:ByteArray) (f c:Int):ByteArray:=let f:=min (max f 0) s.size;let k:=min (max c 0) (s.size - f);cellV (s.extract f.toNat (f.toNat + k.toNat))
def cutsV (it:Int→ByteArray) (v:ByteArray) (n:Int):Out :=
 [(cellV (cellV (cutV v 0 n)++cellV (cutV v n (boundV v.size))),lettersV (cellV (lettersV (cellV v) 97 65)) 65 97),(lettersV (cellV v) 65 97,lettersV (cellV (lettersV (cellV v) 65 97)) 97 65),(lettersV (cellV v) 97 65,it (boundV v.size))]
theorem cuts_run (it:Int→ByteArray) (k v:ByteArray):mapV it progCuts k v=cutsV it v (parseV k):=by kernel_rfl
theorem cell_of {s:ByteArray} (h:s.size ≤ 4096):cellV s=s:=by
 unfold cellV
 rw [Nat.min_eq_left h]
 exact ByteArray.extract_zero_size
theorem letters_size (s:ByteArray) (f t:UInt8):(lettersV s f t).size=s.size:=by
 show (s.data.map _).size=s.data.size
 simp
theorem lower_upper (s:ByteArray):lettersV (lettersV s 97 65) 65 97=lettersV s 65 97:=by
 unfold lettersV
 congr 1
 show (s.data.map _).map _=_
 rw [Array.map_map]
 congr 1
 funext c
 have:∀ c:UInt8,(let f:=fun c:UInt8=>if 97 ≤ c && c < 97 + 26 then c - 97 + 65 else c;let g:=fun c:UInt8=>if 65 ≤ c && c < 65 + 26 then c - 65 + 97 else c;(g (f c) == g c)=true):=by
  intro c
  obtain ⟨n⟩:=c
  revert n
  decide +kernel
 exact eq_of_beq (this c)
theorem upper_lower (s:ByteArray):lettersV (lettersV s 65 97) 97 65=lettersV s 97 65:=by
 unfold lettersV
 congr 1
 show (s.data.map _).map _=_
 rw [Array.map_map]
 congr 1
 funext c
 have:∀ c:UInt8,(let f:=fun c:UInt8=>if 65 ≤ c && c < 65 + 26 then c - 65 + 97 else c;let g:=fun c:UInt8=>if 97 ≤ c && c < 97 + 26 then c - 97 + 65 else c;(g (f c) == g c)=true):=by
  intro c
  obtain ⟨n⟩:=c
  revert n
  decide +kernel
 exact eq_of_beq (this c)
theorem cuts_law (s:ByteArray) (n:Int) (hs:s.size ≤ 4096) (h1:0 ≤ n) (h2:n ≤ 1073741824):mapV itoaB progCuts (itoaB n) s =
  [(s,lettersV s 65 97),(lettersV s 65 97,lettersV s 97 65),(lettersV s 97 65,itoaB s.size)]:=by
 rw [cuts_run,parse_itoa n (by omega) (by omega)]
 unfold cutsV
 have e1:∀ f t,cellV (lettersV s f t)=lettersV s f t:=fun f t=>cell_of (by rw [letters_size];exact hs)
 have eb:boundV (s.size:Int)=s.size:=boundV_of (by omega) (by omega)
 rw [cell_of hs,e1,e1,lower_upper,upper_lower,eb]
 have ec:cellV (cellV (cutV s 0 n)++cellV (cutV s n s.size))=s:=by
  have hx:∀ a b,(s.extract a b).size ≤ 4096:=fun a b=>by rw [ByteArray.size_extract];omega
  have c1:cutV s 0 n=s.extract 0 (min n s.size).toNat:=by
   unfold cutV
   simp only
   rw [show min (max (0:Int) 0) (s.size:Int)=0 by omega,cell_of (hx _ _)]
   congr 1
   omega
  have c2:cutV s n s.size=s.extract (min n s.size).toNat s.size:=by
   unfold cutV
   simp only
   rw [cell_of (hx _ _)]
   congr 1 <;> omega
  rw [c1,c2,cell_of (hx _ _),cell_of (hx _ _)]
  have:s.extract 0 (min n s.size).toNat++s.extract (min n s.size).toNat s.size=s:=by
   rw [ByteArray.extract_append_extract]
   rw [show min 0 (min n (s.size:Int)).toNat=0 by omega,show max (min n (s.size:Int)).toNat s.size=s.size by omega]
   exact ByteArray.extract_zero_size
  rw [this,cell_of hs]
 rw [ec]
end Go.Lang
end
section
namespace Go.Lang
open Go.Lib
set_option maxRecDepth 100000
def one1:ByteArray:=⟨#[49]⟩
theorem counts_run (it:Int→ByteArray) (k v:ByteArray):mapV it progCounts k v=(piecesV [32] 256 v.data.toList).foldl (fun o p=>if o.length < 1024 then o++[((⟨p.toArray⟩:ByteArray),one1)] else o) []:=by kernel_rfl
theorem counts_red (it:Int→ByteArray) (k:ByteArray) (l:List ByteArray):reduceV it progCounts k l=[(k,it (foldV (· + ·) l).n)]:=by kernel_rfl
theorem pieces_len (b:List UInt8):∀ (k:Nat) (s:List UInt8),(piecesV b k s).length ≤ k
 | 0,s=>by simp [piecesV]
 | k + 1,s=>by
  unfold piecesV
  split
  ·simp
  ·rename_i i _
   have:=pieces_len b k (s.drop (i + b.length))
   simp only [List.length_cons]
   exact Nat.succ_le_succ this
theorem fold_emit:∀ (l:List (List UInt8)) (o:Out),o.length + l.length ≤ 1024→l.foldl (fun o p=>if o.length < 1024 then o++[((⟨p.toArray⟩:ByteArray),one1)] else o) o=o++l.map fun p=>((⟨p.toArray⟩:ByteArray),one1)
 | [],o,_=>by simp
 | p::l,o,h=>by
  simp only [List.length_cons] at h
  rw [List.foldl_cons,if_pos (by omega),fold_emit l _ (by simp;omega)]
  simp
theorem counts_map (it:Int→ByteArray) (k v:ByteArray):mapV it progCounts k v=(piecesV [32] 256 v.data.toList).map fun p=>((⟨p.toArray⟩:ByteArray),one1):=by
 rw [counts_run,fold_emit _ _ (by have:=pieces_len [32] 256 v.data.toList;simp;omega)]
 simp
theorem parse_one:parseV one1=1:=by kernel_rfl
theorem fold_ones:∀ (n:Nat) (a:Int),0 ≤ a→a + n ≤ 1099511627776→(List.replicate n one1).foldl (fun n x=>boundV (n + parseV x)) a=a + n
 | 0,a,_,_=>by simp
 | n + 1,a,h,h2=>by
  rw [List.replicate_succ,List.foldl_cons,parse_one,boundV_of (by omega) (by omega),fold_ones n (a + 1) (by omega) (by omega)]
  omega
theorem sum_ones (n:Nat) (h:n ≤ 1024):(foldV (· + ·) (List.replicate n one1)).n=n:=by
 cases n with
 | zero=>rfl
 | succ n =>
  rw [List.replicate_succ]
  show (List.replicate n one1).foldl (fun n x=>boundV (n + parseV x)) (parseV one1)=_
  rw [parse_one,fold_ones n 1 (by omega) (by omega)]
  omega
theorem counts_sum (n:Nat) (h:n ≤ 1024) (k:ByteArray):reduceV itoaB progCounts k (List.replicate n one1)=[(k,itoaB n)]:=by rw [counts_red,sum_ones n h]
end Go.Lang
end
section
namespace Go.Proofs.YtibigfkeaemanaaGreatDoor.L
open Go.Ab Go.Lang Go.Proofs.YtibigfkeaemanaaGreatDoor.X
set_option maxRecDepth 100000
theorem gsTurn {P:Program} {e z:Nat} {h:AH} {s:Value} {l:List Value} (o:Gs e z h s l) (hz:0 < z) (hl:∀ v ∈ l,v.cells.size=z) :
  ∃ h₂ s',GhU P h h₂ s s'∧(∀ k,blkOf s ≠ some k→h₂.get k=h.get k)∧h₂.size=h.size∧Sl s' l:=by
 cases o with
 | nil=>exact ⟨h,_,.refl,fun _ _=>rfl,rfl,.nil⟩
 | row hg hsp hc hx hp =>
  rename_i k c x sp
  have hall:∀ v ∈ l++x,v.cells.size=z:=fun v hv=>(List.mem_append.1 hv).elim (hl v) (hx v)
  refine ⟨_,_,GhU.slice (l:=l) hg hz hl rfl (by omega) (fun i v hv=>?_) ?_,fun j hj=>get_put_ne (fun e=>hj (by rw [e];rfl)),rfl,.vs l⟩
  ·rw [hc,Nat.zero_add]
   have hlt:=(List.getElem?_eq_some_iff.1 hv).1
   simp only [List.getElem?_toArray]
   rw [show flatC (l++x)=flatC l++flatC x by simp [flatC],List.getElem?_append_left hlt]
   exact hv
  ·rw [hc];simp [flatC_length hall,Nat.add_mul]
theorem out_row {h:AH} {ov:Value} {out:Lang.Out} (G:Gs 40 2 h ov (out.map encPair)) (hne:out ≠ []):∃ k c cap sp,ov=.slice (some ⟨k,0,none⟩) out.length cap∧h.get k=some (.cells c 40 (0,0),sp) ∧
  ∀ (i:Nat) a b,out[i]?=some (a,b)→c[i * 2]?=some (.string a)∧c[i * 2 + 1]?=some (.string b)∧ldN 2 h (.pointer (some ⟨k,i * 2,none⟩))=some (.agg #[.string a,.string b]):=by
 have hz:∀ w ∈ out.map encPair,w.cells.size=2:=fun w hw=>by
  obtain ⟨q,_,rfl⟩:=List.mem_map.1 hw
  rfl
 have hL:(out.map encPair).length=out.length:=List.length_map ..
 generalize he:out.map encPair=l at G hz hL
 cases G with
 | nil=>cases out with | nil=>exact absurd rfl hne | cons _ _=>cases he
 | row hg hsp hc hx hp =>
  rename_i k c x sp
  subst he
  refine ⟨k,c,_,sp,by rw [hL],hg,fun i a b hi=>?_⟩
  have hall:∀ v ∈ out.map encPair++x,v.cells.size=2:=fun v hv=>(List.mem_append.1 hv).elim (hz v) (hx v)
  have hlt:=(List.getElem?_eq_some_iff.1 hi).1
  have hget:(out.map encPair++x)[i]?=some (encPair (a,b)):=by
   rw [List.getElem?_append_left (by rw [hL];exact hlt),List.getElem?_map,hi];rfl
  have q0:=flatC_at hall 0 hget (by omega)
  have q1:=flatC_at hall 1 hget (by omega)
  have p0:c[i * 2]?=some (.string a):=by rw [hc,List.getElem?_toArray];exact q0
  have p1:c[i * 2 + 1]?=some (.string b):=by rw [hc,List.getElem?_toArray];exact q1
  refine ⟨p0,p1,?_⟩
  have hs:=(Array.getElem?_eq_some_iff.1 p1).1
  rw [ldN_ptr,hg,rowC_cells,Option.bind_some,if_pos (by omega)]
  congr 2
  apply Array.ext
  ·simp;omega
  ·intro j h1 h2
   apply Option.some.inj
   rw [← Array.getElem?_eq_getElem,← Array.getElem?_eq_getElem,Array.getElem?_extract]
   simp at h1
   match j,h2 with
   | 0,_=>rw [if_pos (by omega)];exact p0
   | 1,_=>rw [if_pos (by omega)];exact p1
theorem itoa_2:itoaB 2=⟨#[50]⟩:=by
 unfold itoaB Lib.itoa
 rw [if_neg (by omega),Lib.decDigits,dif_pos (by omega)]
 rfl
structure Gl (h:AH):Prop where
 g:Glob h
 t:Tab h
theorem Gl.kp {h h':AH} (G:Gl h) (K:Kp h.size h h'):Gl h':=⟨G.g.kp K,G.t.kp K⟩
theorem counts_okB:okB progCounts.map=true∧oneB progCounts.map=true∧okB progCounts.reduce=true∧oneB progCounts.reduce=true∧needB progCounts.map ≤ 1000∧needB progCounts.reduce ≤ 1000 :=
 ⟨by kernel_rfl,by kernel_rfl,by kernel_rfl,by kernel_rfl,of_decide_eq_true (by kernel_rfl),of_decide_eq_true (by kernel_rfl)⟩
theorem counts_ab:mapV itoaB progCounts ⟨#[]⟩ ⟨#[97,32,98]⟩=[(⟨#[97]⟩,⟨#[49]⟩),(⟨#[98]⟩,⟨#[49]⟩)]:=by
 rw [counts_map]
 kernel_rfl
theorem counts_11:reduceV itoaB progCounts ⟨#[97]⟩ [⟨#[49]⟩,⟨#[49]⟩]=[(⟨#[97]⟩,⟨#[50]⟩)]:=by
 have:=counts_sum 2 (by omega) ⟨#[97]⟩
 rw [show ((2:Nat):Int)=2 from rfl,itoa_2] at this
 exact this
theorem evspeaks_ok {h:AH} (G:Gl h):HC Tryz.prog 12 [].toArray h fun r h'=>r=.ret (.bool true)∧Kp h.size h h':=by
 refine X12_ok ?_
 unfold X12
 obtain ⟨w1,w2,w3,w4,w5,w6⟩:=counts_okB
 generalize hs2:stN 2=s2
 generalize hl2:ldN 2=l2
 simp (disch:=(first | exact dz | fail)) only [SXB,SX,reduceIte,Int.reduceLT,Int.reduceLE,Int.reduceToNat,Int.reduceBEq,Int.reduceBNe,Nat.reduceAdd,Nat.reduceMul,Nat.reduceSub,Nat.reduceLeDiff]
 subst hs2 hl2
 refine HC.mono (parse_ok G.g) fun r h1 hp=>?_
 have hrd:=readCounts
 unfold textCounts at hrd
 rw [hrd] at hp
 obtain ⟨K1,q,rfl,hq,hq2,gq⟩:=hp
 have z1:=K1.size
 simp only [resK_ret]
 refine bq_of (x:=.pointer (some ⟨q,0,none⟩)) rfl ?_
 refine bq_of (x:=.agg #[.int .i64 0,.int .i64 0]) rfl ?_
 refine bq_of (stN_full (get_push_eq rfl) rfl rfl (fun z hz=>by simp [Value.cells] at hz;rcases hz with rfl | rfl <;> rfl)) ?_
 have gq2:=(get_put_ne (h:=h1.push (.cells #[.int .i64 0,.int .i64 0] 25 (0,0)) none) (k:=h1.size) (j:=q) (v:=some (.cells (Value.agg #[.int .i64 0,.int .i64 0]).cells 25 (0,0),none)) (by omega)).trans ((get_push_ne (by omega)).trans gq)
 have K2:Kp h.size h ((h1.push (.cells #[.int .i64 0,.int .i64 0] 25 (0,0)) none).put h1.size (some (.cells (Value.agg #[.int .i64 0,.int .i64 0]).cells 25 (0,0),none))):=by (repeat (first | exact Kp.refl _ _ | assumption | refine Kp.push ?_ _ _ (by first | omega | (simp only [sz_push,sz_put];omega)) | refine Kp.put ?_ _ _ (by first | omega | (simp only [sz_push,sz_put];omega))))
 have z2:((h1.push (.cells #[.int .i64 0,.int .i64 0] 25 (0,0)) none).put h1.size (some (.cells (Value.agg #[.int .i64 0,.int .i64 0]).cells 25 (0,0),none))).size=h1.size + 1:=by simp
 generalize ((h1.push (.cells #[.int .i64 0,.int .i64 0] 25 (0,0)) none).put h1.size (some (.cells (Value.agg #[.int .i64 0,.int .i64 0]).cells 25 (0,0),none)))=h2 at gq2 K2 z2 ⊢
 have G2:=G.kp K2
 refine HC.mono (evmap_ok (M:=5000) (by omega) (by omega) w1 (.inr w2) (by omega) G2.t gq2 (key:=⟨#[]⟩) (val:=⟨#[97,32,98]⟩) (of_decide_eq_true (by kernel_rfl)) (of_decide_eq_true (by kernel_rfl))) fun r h3 hp=>?_
 obtain ⟨ov,rfl,K3,O3,b3⟩:=hp
 rw [counts_ab] at O3
 have z3:=K3.size
 simp only [resK_ret]
 have LG:Gs 9 1 (h3.push (.cells #[.string ⟨#[49]⟩,.string ⟨#[49]⟩] 9 (0,0)) none) (.slice (some ⟨h3.size,0,none⟩) 2 2) (strL [⟨#[49]⟩,⟨#[49]⟩]):=.row (l:=[.string ⟨#[49]⟩,.string ⟨#[49]⟩]) (x:=[]) (get_push_eq rfl) (.inl rfl) rfl (by simp) (by simp)
 obtain ⟨h4,s',gu,gf,gsz,sl⟩:=gsTurn (P:=Tryz.prog) LG (by omega) (strL_size _)
 refine HC.gh (pre:=[.pointer (some ⟨q,0,none⟩),.string ⟨#[97]⟩]) (post:=[]) (Gh.turn gu .here) ?_
 have K4:Kp h3.size h3 h4:=⟨by rw [gsz];simp,fun k hk=>(gf k (fun e=>by simp [blkOf] at e;omega)).trans (get_push_ne (by omega))⟩
 have z4:=K4.size
 have K24:Kp h2.size h2 h4:=⟨by omega,fun k hk=>(K4.get k (by omega)).trans (K3.get k hk)⟩
 have G4:=G2.kp K24
 refine HC.mono (evreduce_ok (M:=5000) (p:=progCounts) (by omega) (by omega) w3 (.inr w4) (by omega) G4.t ((K24.get q (by omega)).trans gq2) (key:=⟨#[97]⟩) (of_decide_eq_true (by kernel_rfl)) (l:=[⟨#[49]⟩,⟨#[49]⟩]) sl (fun s hs=>by simp at hs;subst hs;exact of_decide_eq_true (by kernel_rfl)) (by simp)) fun r h5 hp=>?_
 obtain ⟨ov2,rfl,K5,O5,b5⟩:=hp
 rw [counts_11] at O5
 have z5:=K5.size
 have O3':=O3.mono (h':=h5) fun k hk=>by
  have:=b3 k hk
  exact (K5.get k (by omega)).trans (K4.get k (by omega))
 obtain ⟨k1,c1,cap1,sp1,rfl,r1,f1⟩:=out_row O3' (by simp)
 obtain ⟨k2,c2,cap2,sp2,rfl,r2,f2⟩:=out_row O5 (by simp)
 obtain ⟨_,_,l1⟩:=f1 1 ⟨#[98]⟩ ⟨#[49]⟩ rfl
 obtain ⟨_,_,l2⟩:=f2 0 ⟨#[97]⟩ ⟨#[50]⟩ rfl
 have K15:Kp h.size h h5:=⟨by have:=K2.size;omega,fun k hk=>(K5.get k (by have:=K2.size;omega)).trans ((K24.get k (by have:=K2.size;omega)).trans (K2.get k hk))⟩
 simp only [resK_ret]
 generalize hl2:ldN 2=ll at l1 l2
 have e2:(((2:Nat):Int) == 2)=true:=rfl
 have e1:(((1:Nat):Int) == 1)=true:=rfl
 have e3:(1:Int) < ((2:Nat):Int):=by omega
 have e4:(0:Int) < ((1:Nat):Int):=by omega
 simp (disch:=(first | exact dz | fail)) only [e1,e2,e3,e4,l1,l2,SXB,SX,reduceIte,Int.reduceLT,Int.reduceLE,Int.reduceToNat,Int.reduceBEq,Int.reduceBNe,Nat.reduceAdd,Nat.reduceMul,Nat.reduceSub,Nat.reduceLeDiff]
 refine bq_of (x:=.agg #[.string ⟨#[98]⟩,.string ⟨#[49]⟩]) rfl ?_
 have s1:((ByteArray.mk #[98]).toList == (ByteArray.mk #[98]).toList)=true:=beq_self_eq_true _
 have s2:((ByteArray.mk #[49]).toList == (ByteArray.mk #[49]).toList)=true:=beq_self_eq_true _
 simp (disch:=(first | exact dz | fail)) only [s1,s2,e1,e4,l2,SXB,SX,reduceIte,Int.reduceLT,Int.reduceLE,Int.reduceToNat,Int.reduceBEq,Int.reduceBNe,Nat.reduceAdd,Nat.reduceMul,Nat.reduceSub,Nat.reduceLeDiff]
 refine bq_of (x:=.agg #[.string ⟨#[97]⟩,.string ⟨#[50]⟩]) rfl ?_
 have s3:((ByteArray.mk #[97]).toList == (ByteArray.mk #[97]).toList)=true:=beq_self_eq_true _
 have s4:((ByteArray.mk #[50]).toList == (ByteArray.mk #[50]).toList)=true:=beq_self_eq_true _
 simp (disch:=(first | exact dz | fail)) only [s3,s4,SXB,SX,reduceIte,Int.reduceLT,Int.reduceLE,Int.reduceToNat,Int.reduceBEq,Int.reduceBNe,Nat.reduceAdd,Nat.reduceMul,Nat.reduceSub,Nat.reduceLeDiff]
 exact K15
end Go.Proofs.YtibigfkeaemanaaGreatDoor.L
end
section
namespace Go.Ab
theorem any_split {α:Type} (f:α→Bool) (n:Nat) (l:List α) (h1:(l.take n).any f=false) (h2:(l.drop n).any f=false):l.any f=false:=by
 rw [← List.take_append_drop n l,List.any_append,h1,h2]
 rfl
theorem goes_none {P:Program} (h:P.funcs.toList.any Func.goes=false) {c:OpenClaim} (hs:c.start=.entering):false=c.goesBy P:=by
 have hf:∀ g:Nat,((P.funcs[g]?:Option Func).any Func.goes)=false:=by
  intro g
  cases hg:P.funcs[g]? with
  | none=>rfl
  | some fn =>
   have hm:fn ∈ P.funcs.toList:=by
    rw [← Array.getElem?_toList] at hg
    exact List.mem_of_getElem? hg
   have:=List.any_eq_false.1 h fn hm
   simpa using this
 have ha:P.funcs.any Func.goes=false:=by rw [← Array.any_toList];exact h
 have key:∀ f,P.goes f=false:=by
  intro f
  unfold Program.goes
  rw [ha]
  simp only [Bool.and_false,Bool.or_false]
  rw [List.any_eq_false]
  intro g _
  simp [hf g]
 unfold OpenClaim.goesBy Program.goesAt Program.goesFrom
 rw [hs]
 cases hn:P.funcNamed c.func with
 | none=>rfl
 | some f=>simp [key f]
end Go.Ab
end
section
namespace Go.Ab
def laidL (f:DataW Unit→Option (List Value)) (s:Nat):List (DataW Unit)→Option (List Value)
 | []=>some []
 | d::ds=>match f d,laidL f s ds with
  | some v,some vs=>if v.length=s then some (v++vs) else none
  | _,_=>none
def laidF (P:Program) (f:TypeId→DataW Unit→Option (List Value)):Nat→List Field→List (DataW Unit)→Option (List Value)
 | _,[],[]=>some []
 | off,g::gs,d::ds=>if g.offset=off then match f g.type d with
  | some v=>if v.length=P.cellsOf g.type then match laidF P f (off + v.length) gs ds with
   | some vs=>some (v++vs)
   | none=>none
   else none
  | none=>none
  else none
 | _,_,_=>none
def laidC (P:Program):Nat→TypeId→DataW Unit→Option (List Value)
 | 0,_,_=>none
 | n + 1,t,d=>match P.underlying t with
  | some (.int _)=>match d with
   | .lit (.int k x)=>some [.int k x]
   | _=>none
  | some .bool=>match d with
   | .lit (.bool b)=>some [.bool b]
   | _=>none
  | some .string=>match d with
   | .lit (.string l)=>some [.string ⟨l.toArray⟩]
   | _=>none
  | some (.array m e)=>match d with
   | .agg ds=>if P.cellsOf t=m * P.cellsOf e then laidL (laidC P n e) (P.cellsOf e) ds else none
   | _=>none
  | some (.struct fs)=>match d with
   | .agg ds=>match laidF P (laidC P n) 0 fs.toList ds with
    | some vs=>if vs.length=P.cellsOf t then some vs else none
    | none=>none
   | _=>none
  | _=>none
theorem chunks_eq {α:Type} {s:Nat}:∀ {m:Nat} {a b:List α},a.length=m * s→b.length=m * s→(∀ i,i < m→(a.drop (i * s)).take s=(b.drop (i * s)).take s)→a=b:=by
 intro m
 induction m with
 | zero =>
  intro a b ha hb _
  have e1:a=[]:=List.eq_nil_of_length_eq_zero (by simpa using ha)
  have e2:b=[]:=List.eq_nil_of_length_eq_zero (by simpa using hb)
  rw [e1,e2]
 | succ m ih =>
  intro a b ha hb h
  have h0:=h 0 (by omega)
  simp only [Nat.zero_mul,List.drop_zero] at h0
  have e:a.drop s=b.drop s:=by
   refine ih (by rw [List.length_drop,ha,Nat.succ_mul];omega) (by rw [List.length_drop,hb,Nat.succ_mul];omega) fun i hi=>?_
   have:=h (i + 1) (by omega)
   rw [List.drop_drop,List.drop_drop]
   rw [show s + i * s=(i + 1) * s by rw [Nat.succ_mul];omega]
   exact this
  rw [← List.take_append_drop s a,← List.take_append_drop s b,h0,e]
theorem laidL_eq {f:DataW Unit→Option (List Value)} {s:Nat}:∀ {ds:List (DataW Unit)} {vs:List Value},laidL f s ds=some vs→vs.length=ds.length * s∧∀ (i:Nat) d,ds[i]?=some d→∃ v,f d=some v∧(vs.drop (i * s)).take s=v:=by
 intro ds
 induction ds with
 | nil=>intro vs h;cases h;exact ⟨by simp,fun i d hd=>by simp at hd⟩
 | cons d ds ih =>
  intro vs h
  simp only [laidL] at h
  split at h
  ·rename_i v ws hv hw
   split at h
   ·rename_i hl
    cases h
    obtain ⟨h1,h2⟩:=ih hw
    refine ⟨by rw [List.length_append,List.length_cons,Nat.succ_mul];omega,fun i x hx=>?_⟩
    cases i with
    | zero =>
     simp at hx;subst hx
     exact ⟨v,hv,by simp [← hl]⟩
    | succ i =>
     obtain ⟨u,g1,g2⟩:=h2 i x (by simpa using hx)
     refine ⟨u,g1,?_⟩
     rw [show (i + 1) * s=v.length + i * s by rw [hl,Nat.succ_mul];omega,← List.drop_drop,List.drop_left]
     exact g2
   ·cases h
  ·cases h
theorem laidF_eq {P:Program} {f:TypeId→DataW Unit→Option (List Value)} {cs:List Value} {g:Field→Option (DataW Unit × List MemPlace)} (hg:∀ x y v,g x=some y→f x.type y.1=some v→v.length=P.cellsOf x.type→(cs.drop x.offset).take (P.cellsOf x.type)=v) :
  ∀ {fs:List Field} {ds:List (DataW Unit)} {off:Nat} {vs:List Value} {xs:List (DataW Unit × List MemPlace)},laidF P f off fs ds=some vs→fs.mapM g=some xs→ds=xs.map (·.1)→(cs.drop off).take vs.length=vs:=by
 intro fs
 induction fs with
 | nil =>
  intro ds off vs xs h hm hd
  cases ds with
  | nil=>simp only [laidF] at h;cases h;rfl
  | cons=>simp only [laidF] at h;cases h
 | cons x fs ih =>
  intro ds off vs xs h hm hd
  cases ds with
  | nil=>simp only [laidF] at h;cases h
  | cons d ds =>
   simp only [laidF] at h
   split at h
   case isFalse=>cases h
   rename_i hoff
   split at h
   case h_2=>cases h
   rename_i v hv
   split at h
   case isFalse=>cases h
   rename_i hl
   split at h
   case h_2=>cases h
   rename_i ws hw
   cases h
   rw [List.mapM_cons] at hm
   simp only [Option.bind_eq_bind,Option.bind_eq_some_iff,Option.pure_def,Option.some.injEq] at hm
   obtain ⟨y,hy,ys,hys,rfl⟩:=hm
   simp only [List.map_cons,List.cons.injEq] at hd
   obtain ⟨rfl,rfl⟩:=hd
   have h1:=hg x y v hy hv hl
   have h2:=ih hw hys rfl
   rw [hoff,← hl] at h1
   rw [List.length_append,List.take_add,h1,List.drop_drop]
   rw [h2]
theorem laidC_eq {P:Program} {w:World} {base:Nat} {sp:Nat→Bool} {held:Bool}:∀ (n:Nat) {fuel:Nat} {t:TypeId} {cs vs:List Value} {d:DataW Unit} {p:List MemPlace},
  laidC P n t d=some vs→DataW.trod (fun _=>()) P w base sp held fuel t cs=some (d,p)→cs=vs:=by
 intro n
 induction n with
 | zero=>intro fuel t cs vs d p h;cases h
 | succ n ih =>
  intro fuel t cs vs d p h ht
  cases fuel with
  | zero=>cases ht
  | succ fuel =>
   unfold laidC at h
   unfold DataW.trod at ht
   split at h
   ·rename_i k hu
    rw [hu] at ht
    simp only at ht
    split at ht <;> first
     | (cases ht;done)
     | skip
    ·rename_i e;cases e
    ·rename_i k1 k2 m e
     cases e
     split at ht
     ·rename_i hk
      cases ht
      simp only at h
      cases h
      rw [hk.1]
     ·cases ht
    all_goals (rename_i e;cases e)
   ·rename_i hu
    rw [hu] at ht
    simp only at ht
    split at ht <;> first
     | (cases ht;done)
     | skip
    ·cases ht;simp only at h;cases h;rfl
    all_goals (rename_i e;cases e)
   ·rename_i hu
    rw [hu] at ht
    simp only at ht
    split at ht <;> first
     | (cases ht;done)
     | skip
    all_goals first
     | (rename_i e;cases e;done)
     | skip
    split at ht
    ·cases ht
     simp only at h
     cases h
     rfl
    ·cases ht
   ·rename_i m e hu
    rw [hu] at ht
    simp only at ht
    split at ht
    ·rename_i hlen
     rw [Option.map_eq_some_iff] at ht
     obtain ⟨xs,hx,hxe⟩:=ht
     cases hxe
     simp only at h
     split at h
     case isFalse=>cases h
     rename_i hcells
     obtain ⟨h1,h2⟩:=laidL_eq h
     obtain ⟨g1,g2⟩:=mapM_get hx
     rw [List.length_range] at g1
     refine chunks_eq (m:=m) (s:=P.cellsOf e) (by rw [hlen,hcells]) (by rw [h1,List.length_map,← g1]) fun i hi=>?_
     obtain ⟨y,k1,k2⟩:=g2 i i (by rw [List.getElem?_range hi])
     obtain ⟨v,k3,k4⟩:=h2 i y.1 (by rw [List.getElem?_map,k2];rfl)
     rw [ih k3 k1,k4]
    ·cases ht
   ·rename_i fs hu
    rw [hu] at ht
    simp only at ht
    split at ht
    ·rename_i hlen
     rw [Option.map_eq_some_iff] at ht
     obtain ⟨xs,hx,hxe⟩:=ht
     cases hxe
     simp only at h
     split at h
     case h_2=>cases h
     rename_i ws hw
     split at h
     case isFalse=>cases h
     rename_i hl
     cases h
     have:=laidF_eq (cs:=cs) (fun x y v hy hv _=>ih hv hy) hw hx rfl
     rw [List.drop_zero,hl,← hlen,List.take_length] at this
     exact this
    ·cases ht
   ·cases h
def rowT (P:Program) (g:Nat):Option TypeId:=(((begin P (fun _ _=>0) default).world.heap[g]?).bind Obj.row?).map (·.2)
def laid1 (P:Program) (x:String × DataW Unit):Option (Nat × Array Value × TypeId):=match P.globalNamed x.1 with
 | some g=>match (P.globals[g]?).map (·.type) with
  | some t=>match laidC P 20 t x.2,rowT P g with
   | some vs,some e=>if vs.all plain then some (g,vs.toArray,e) else none
   | _,_=>none
  | none=>none
 | none=>none
def laidT (P:Program):List (String × DataW Unit)→T (Obj × Option Nat)
 | []=>.leaf
 | x::l=>match laid1 P x with
  | some (g,c,e)=>(laidT P l).put (g + 1) (g + 1) (some (.cells c e (0,1),none))
  | none=>laidT P l
def AH.laid (P:Program) (l:List (String × DataW Unit)):AH:=⟨laidT P l,P.globals.size,[]⟩
theorem laidT_get {P:Program} {w:World} (hv:∀ g e,rowT P g=some e→g < P.globals.size→∃ c,w.heap[g]?=some (.cells c e)):∀ {l:List (String × DataW Unit)} {ps:List MemPlace},DataW.LaidVars P w l ps →
  ∀ k o s,(laidT P l).get (k + 1)=some (o,s)→s=none∧k < P.globals.size∧∃ c e fz,o=.cells c e (0,1)∧w.heap[k]?=some (.cells c e fz)∧∀ v ∈ c.toList,plain v=true:=by
 intro l
 induction l with
 | nil=>intro ps _ k o s h;simp [laidT,T.get] at h
 | cons x l ih =>
  intro ps hl k o s h
  obtain ⟨n,d⟩:=x
  obtain ⟨g,t,cs,fuel,p,q,h1,h2,h3,h4,h5,_⟩:=hl
  simp only [laidT] at h
  split at h
  ·rename_i g' c e he
   rw [T.get_put _ _ _ _ _ (by omega) (Nat.le_refl _) (by omega)] at h
   split at h
   ·rename_i hk
    have hk':k=g':=by omega
    subst hk'
    cases h
    unfold laid1 at he
    rw [h1] at he
    simp only [h2] at he
    split at he
    case h_2=>cases he
    rename_i vs e' hvs hrow
    split at he
    case isFalse=>cases he
    rename_i hpl
    cases he
    have hlt:k < P.globals.size:=by
     cases hg:P.globals[k]? with
     | none=>rw [hg] at h2;cases h2
     | some _=>exact (Array.getElem?_eq_some_iff.1 hg).1
    obtain ⟨c',hc'⟩:=hv k e hrow hlt
    unfold World.var? at h3
    rw [h1] at h3
    simp only [Option.bind_some,hc'] at h3
    cases h3
    have:=laidC_eq 20 hvs h4
    refine ⟨rfl,hlt,vs.toArray,e,(0,0),rfl,?_,fun v hv=>List.all_eq_true.1 hpl v (by simpa using hv)⟩
    rw [hc',← this]
   ·exact ih h5 k o s h
  ·exact ih h5 k o s h
theorem rw_known {P:Program} {w:World} (hsz:P.globals.size ≤ w.heap.size) {h:AH} (hs:h.size=P.globals.size) (hget:∀ k o s,h.get k=some (o,s)→s=none∧k < P.globals.size∧∃ c e fz c',o=.cells c e (0,1) ∧
  w.heap[k]?=some (.cells c' e fz)∧c.size=c'.size∧(∀ (i:Nat) v,c[i]?=some v→c'[i]?=some v)∧∀ v ∈ c.toList,plain v=true):RW P (stillR P w) h w:=by
 have b:=rw_bare (P:=P) hsz
 refine ⟨b.glob,fun k n hk=>by rw [hs];exact b.dom k n hk,b.sdom,fun k o s hk=>?_,fun j k n hj hk gj gk=>?_,b.frz,fun k o s n hk hn hf=>?_,b.sep⟩
 ·obtain ⟨rfl,hlt,c,e,fz,c',rfl,hw,hle,hcc,hp⟩:=hget k o s hk
  refine ⟨k,_,b.glob k hlt,hw,.ice (Nat.le_of_eq hle) (fun _=>hle) fun i v v' h1 h2=>?_,rfl⟩
  rw [hcc i v h1] at h2
  cases h2
  exact RV.of_plain (hp v (List.mem_of_getElem? (by rw [Array.getElem?_toList];exact h1)))
 ·have hlj:=(b.dom j n hj).1
  have hlk:=(b.dom k n hk).1
  have e1:=b.glob j hlj
  have e2:=b.glob k hlk
  rw [hj] at e1;rw [hk] at e2
  cases e1;cases e2;rfl
 ·obtain ⟨rfl,_,c,e,fz,c',rfl,_⟩:=hget k o s hk
  rfl
theorem laid_get {P:Program} {w:World} {l:List (String × DataW Unit)} (hv:varsB P=true) (hs:w.ShapedOpen P) (hh:(l.filter fun x=>x.2.handleName?.isSome).isEmpty=true) (hl:laidMetH P l w) :
  ∀ k o s,(AH.laid P l).get k=some (o,s)→s=none∧k < P.globals.size∧∃ c e fz,o=.cells c e (0,1)∧w.heap[k]?=some (.cells c e fz)∧∀ v ∈ c.toList,plain v=true:=by
 unfold laidMetH at hl
 rw [List.isEmpty_iff] at hh
 rw [hh] at hl
 obtain ⟨ps,hl,_⟩:=hl
 exact laidT_get (P:=P) (w:=w) (fun g e he hg=>by
  have h1:=List.all_eq_true.1 hv g (List.mem_range.2 hg)
  unfold rowT at he
  rw [Option.map_eq_some_iff] at he
  obtain ⟨⟨zero,t⟩,hx,rfl⟩:=he
  obtain ⟨cs,h2,_⟩:=hs.1 g zero t hg hx
  exact ⟨cs,h2⟩) hl
def rowT1 (P:Program) (g:Nat):Option TypeId:=(((begin P (fun _ _=>0) default).world.heap[g]?).bind Obj.row?).bind fun x=>if x.1.size=1 then some x.2 else none
def AH.laidM (P:Program) (l:List (String × DataW Unit)) (g:Nat) (e:TypeId) (m:Int):AH:=(AH.laid P l).put g (some (.cells #[.int .i64 m] e (0,1),none))
theorem rw_laidM {P:Program} {w:World} {l:List (String × DataW Unit)} (hv:varsB P=true) (hs:w.ShapedOpen P) (hh:(l.filter fun x=>x.2.handleName?.isSome).isEmpty=true) (hl:laidMetH P l w) {g:Nat} {e:TypeId} {m:Int}
  (hg:g < P.globals.size) (he:rowT1 P g=some e) (hm:w.cell? ⟨g,0,none⟩=some (.int .i64 m)):RW P (stillR P w) (AH.laidM P l g e m) w :=
 rw_known (vars_size (vars_rows hv hs)) rfl fun k o s hk=>by
  unfold AH.laidM at hk
  rw [AH.get_put] at hk
  split at hk
  ·rename_i e1;subst e1;cases hk
   have h1:=List.all_eq_true.1 hv k (List.mem_range.2 hg)
   unfold rowT1 at he
   rw [Option.bind_eq_some_iff] at he
   obtain ⟨⟨zero,t⟩,hx,he⟩:=he
   split at he
   case isFalse=>cases he
   rename_i hz1
   cases he
   obtain ⟨cs,h2,hsz,_⟩:=hs.1 k zero t hg hx
   have h3:cs[0]?=some (.int .i64 m):=by simpa [World.cell?,h2] using hm
   refine ⟨rfl,hg,#[.int .i64 m],t,_,cs,rfl,h2,?_,fun i v hi=>?_,fun v hv=>?_⟩
   ·have:zero.size=1:=hz1;simp;omega
   ·cases i with
    | zero=>simp at hi;rw [← hi];exact h3
    | succ i=>simp at hi
   ·simp at hv;subst hv;rfl
  ·obtain ⟨h1,h2,c,e,fz,h3,h4,h5⟩:=laid_get hv hs hh hl k o s hk
   exact ⟨h1,h2,c,e,fz,c,h3,h4,rfl,fun _ _ h=>h,h5⟩
end Go.Ab
end
section
namespace Go.Proofs.YtibigfkeaemanaaGreatDoor.L
open Go.Ab Go.Lang Go.Proofs.YtibigfkeaemanaaGreatDoor.X
set_option maxRecDepth 100000
noncomputable def heap0 (l:List (String × DataW Unit)) (m:Int):AH:=AH.laidM Tryz.prog l 1 3 m
theorem heap0_rw {W:World} {l:List (String × DataW Unit)} (hl:laidMetH Tryz.prog l W) (hs:W.ShapedOpen Tryz.prog) (hh:(l.filter fun x=>x.2.handleName?.isSome).isEmpty=true):∃ m,RW Tryz.prog (stillR Tryz.prog W) (heap0 l m) W:=by
 obtain ⟨m,hm⟩:=Tryz.laysM219.s1_3 W hs
 exact ⟨m,rw_laidM (by kernel_rfl) hs hh hl (of_decide_eq_true (by kernel_rfl)) (by kernel_rfl) hm⟩
end Go.Proofs.YtibigfkeaemanaaGreatDoor.L
end
section
namespace Go.Proofs.YtibigfkeaemanaaGreatDoor.L
open Go.Ab Go.Lang Go.Proofs.YtibigfkeaemanaaGreatDoor.X
set_option maxRecDepth 100000
theorem cuts_okB:okB progCuts.map=true∧oneB progCuts.map=true∧needB progCuts.map ≤ 1000:=⟨by kernel_rfl,by kernel_rfl,of_decide_eq_true (by kernel_rfl)⟩
theorem cuts_end {h2:AH} (G2:Gl h2) {q:Nat} {so:Option Nat} (gq2:h2.get q=some (.cells (celP progCuts).toArray 66 (0,0),so)) (s:ByteArray) (hs:s.size ≤ 4096) (n:Int) (h1:0 ≤ n) (hn:n ≤ 1073741824) :
  K6_9 (.string s) (.int .i64 n) (.pointer (some ⟨q,0,none⟩)) h2 fun r x=>∃ v,r=Res.ret v∧v=Value.bool true:=by
 refine X6_9_ok ?_
 unfold X6_9
 obtain ⟨w1,w2,w3⟩:=cuts_okB
 have nn:NumOK n:=by unfold NumOK;omega
 simp (disch:=(first | exact dz | fail)) only [SXB,SX,reduceIte,Int.reduceLT,Int.reduceLE,Int.reduceToNat,Int.reduceBEq,Int.reduceBNe,Nat.reduceAdd,Nat.reduceMul,Nat.reduceSub,Nat.reduceLeDiff]
 refine HC.exact (text_ok n (by omega) (by omega) h2) ?_
 refine HC.mono (evmap_ok (M:=5000) (by omega) (by omega) w1 (.inr w2) (by omega) G2.t gq2 (key:=itoaB n) (val:=s) (by have:=itoa_size nn;omega) (by omega)) fun r h3 hp=>?_
 obtain ⟨ov,rfl,K3,O3,b3⟩:=hp
 rw [cuts_law s n hs h1 hn] at O3
 obtain ⟨k1,c1,cap1,sp1,rfl,r1,f1⟩:=out_row O3 (by simp)
 obtain ⟨a0,b0,_⟩:=f1 0 _ _ rfl
 obtain ⟨a1,b1,_⟩:=f1 1 _ _ rfl
 obtain ⟨a2,b2,_⟩:=f1 2 _ _ rfl
 simp only [resK_ret]
 have e3:(((3:Nat):Int) != 3)=false:=rfl
 have p0:(0:Int) < ((3:Nat):Int):=by omega
 have p1:(1:Int) < ((3:Nat):Int):=by omega
 have p2:(2:Int) < ((3:Nat):Int):=by omega
 have bs:∀ x:ByteArray,(x.toList == x.toList)=true:=fun x=>beq_self_eq_true _
 simp (disch:=(first | exact dz | fail)) only [e3,p0,p1,p2,r1,a0,a1,a2,b0,b1,b2,bs,SXB,SX,reduceIte,Int.reduceLT,Int.reduceLE,Int.reduceToNat,Int.reduceBEq,Int.reduceBNe,Nat.reduceAdd,Nat.reduceMul,Nat.reduceSub,Nat.reduceLeDiff]
 refine HC.exact (text_ok (s.size:Int) (by omega) (by omega) h3) ?_
 simp (disch:=(first | exact dz | fail)) only [r1,b2,bs,SXB,SX,reduceIte,Int.reduceLT,Int.reduceLE,Int.reduceToNat,Int.reduceBEq,Int.reduceBNe,Nat.reduceAdd,Nat.reduceMul,Nat.reduceSub,Nat.reduceLeDiff]
 exact ⟨_,rfl,rfl⟩
theorem evalCuts_main {h:AH} (G:Gl h) (s:ByteArray) (n:Int):HC Tryz.prog 6 [.string s,.int .i64 n].toArray h fun r _=>∃ v,r=.ret v∧v=.bool true:=by
 refine X6_ok ?_
 unfold X6
 generalize hs2:stN 2=s2
 generalize hl2:ldN 2=l2
 simp (disch:=(first | exact dz | fail)) only [SXB,SX,reduceIte,Int.reduceLT,Int.reduceLE,Int.reduceToNat,Int.reduceBEq,Int.reduceBNe,Nat.reduceAdd,Nat.reduceMul,Nat.reduceSub,Nat.reduceLeDiff]
 subst hs2 hl2
 refine HC.mono (evspeaks_ok G) fun r h0 hp=>?_
 obtain ⟨rfl,K0⟩:=hp
 have z0:=K0.size
 have G0:=G.kp K0
 generalize hs2:stN 2=s2
 generalize hl2:ldN 2=l2
 simp (disch:=(first | exact dz | fail)) only [SXB,SX,reduceIte,Int.reduceLT,Int.reduceLE,Int.reduceToNat,Int.reduceBEq,Int.reduceBNe,Nat.reduceAdd,Nat.reduceMul,Nat.reduceSub,Nat.reduceLeDiff]
 subst hs2 hl2
 refine HC.mono (parse_ok G0.g) fun r h1 hp=>?_
 have hrd:=readCuts
 unfold textCuts at hrd
 rw [hrd] at hp
 obtain ⟨K1,q,rfl,hq,hq2,gq⟩:=hp
 have z1:=K1.size
 simp only [resK_ret]
 refine bq_of (x:=.pointer (some ⟨q,0,none⟩)) rfl ?_
 refine bq_of (x:=.agg #[.int .i64 0,.int .i64 0]) rfl ?_
 refine bq_of (stN_full (get_push_eq rfl) rfl rfl (fun z hz=>by simp [Value.cells] at hz;rcases hz with rfl | rfl <;> rfl)) ?_
 refine bq_of (ldN_full (get_put_eq rfl) rfl) ?_
 refine bq_of (x:=.bool false) bin_neq_25 ?_
 rw [condP_false]
 have gq2:=(get_put_ne (h:=h1.push (.cells #[.int .i64 0,.int .i64 0] 25 (0,0)) none) (k:=h1.size) (j:=q) (v:=some (.cells (Value.agg #[.int .i64 0,.int .i64 0]).cells 25 (0,0),none)) (by omega)).trans ((get_push_ne (by omega)).trans gq)
 have K2:Kp h0.size h0 ((h1.push (.cells #[.int .i64 0,.int .i64 0] 25 (0,0)) none).put h1.size (some (.cells (Value.agg #[.int .i64 0,.int .i64 0]).cells 25 (0,0),none))):=by (repeat (first | exact Kp.refl _ _ | assumption | refine Kp.push ?_ _ _ (by first | omega | (simp only [sz_push,sz_put];omega)) | refine Kp.put ?_ _ _ (by first | omega | (simp only [sz_push,sz_put];omega))))
 generalize ((h1.push (.cells #[.int .i64 0,.int .i64 0] 25 (0,0)) none).put h1.size (some (.cells (Value.agg #[.int .i64 0,.int .i64 0]).cells 25 (0,0),none)))=h2 at gq2 K2 ⊢
 have G2:=G0.kp K2
 have emin:min ((s.size:Nat):Int) 4096=((min s.size 4096:Nat):Int):=by omega
 have hsz:(s.extract 0 (min s.size 4096)).size ≤ 4096:=by rw [ByteArray.size_extract];omega
 by_cases hn:n < 0
 ·simp (disch:=(first | exact dz | fail)) only [min_ite,emin,sub_hi (show min s.size 4096 ≤ s.size from Nat.min_le_left _ _),hn,SXB,SX,reduceIte,Int.reduceLT,Int.reduceLE,Int.reduceToNat,Int.reduceBEq,Int.reduceBNe,Nat.reduceAdd,Nat.reduceMul,Nat.reduceSub,Nat.reduceLeDiff]
  exact cuts_end G2 gq2 _ hsz 3 (by omega) (by omega)
 ·by_cases hn2:1073741824 < n
  ·simp (disch:=(first | exact dz | fail)) only [min_ite,emin,sub_hi (show min s.size 4096 ≤ s.size from Nat.min_le_left _ _),hn,hn2,SXB,SX,reduceIte,Int.reduceLT,Int.reduceLE,Int.reduceToNat,Int.reduceBEq,Int.reduceBNe,Nat.reduceAdd,Nat.reduceMul,Nat.reduceSub,Nat.reduceLeDiff]
   exact cuts_end G2 gq2 _ hsz 3 (by omega) (by omega)
  ·simp (disch:=(first | exact dz | fail)) only [min_ite,emin,sub_hi (show min s.size 4096 ≤ s.size from Nat.min_le_left _ _),hn,hn2,SXB,SX,reduceIte,Int.reduceLT,Int.reduceLE,Int.reduceToNat,Int.reduceBEq,Int.reduceBNe,Nat.reduceAdd,Nat.reduceMul,Nat.reduceSub,Nat.reduceLeDiff]
   exact cuts_end G2 gq2 _ hsz n (by omega) (by omega)
end Go.Proofs.YtibigfkeaemanaaGreatDoor.L
end
section
namespace Go.Proofs.YtibigfkeaemanaaGreatDoor.L
open Go.Ab Go.Lang Go.Proofs.YtibigfkeaemanaaGreatDoor.X
set_option maxRecDepth 100000
theorem cuts_gl (m:Int):Gl (heap0 Rows.evalCutsRow.laid m):=by
 have hm:(heap0 Rows.evalCutsRow.laid m).get 1=some (.cells #[.int .i64 m] 3 (0,1),none):=by
  unfold heap0 AH.laidM
  rw [AH.get_put,if_pos rfl]
 refine ⟨⟨⟨m,3,(0,1),none,hm⟩,?_,of_decide_eq_true (by kernel_rfl)⟩,⟨?_,⟨m,3,(0,1),none,hm⟩,of_decide_eq_true (by kernel_rfl)⟩⟩
 ·exact ⟨157,(0,1),none,by kernel_rfl⟩
 ·exact ⟨173,(0,1),none,by kernel_rfl⟩
theorem evalCuts_law (m:Int) (s:Ty.str.T) (n:(Ty.int .i64).T) (w0:Ty.str.WF s) (w1:(Ty.int .i64).WF n):HF Tryz.prog 6 #[Ty.str.val s,(Ty.int .i64).val n] (heap0 Rows.evalCutsRow.laid m) fun v _=>v=.bool true :=
 HC.to_HF (evalCuts_main (cuts_gl m) s n)
end Go.Proofs.YtibigfkeaemanaaGreatDoor.L
end

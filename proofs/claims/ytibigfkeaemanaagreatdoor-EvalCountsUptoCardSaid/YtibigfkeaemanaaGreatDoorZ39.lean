import Derived.KernelRfl
import GoSem.ClaimGoes
import GoSem.ClaimOpen
import Derived.Test.YtibigfkeaemanaaGreatDoorZ18
import Derived.Test.YtibigfkeaemanaaGreatDoorZ20
import Derived.Test.YtibigfkeaemanaaGreatDoorZ24
import Derived.Test.YtibigfkeaemanaaGreatDoorZ37
import Derived.Test.YtibigfkeaemanaaGreatDoorZ38
set_option linter.unusedVariables false
set_option linter.unusedSimpArgs false
section
namespace Go.Proofs.YtibigfkeaemanaaGreatDoor.L
open Go.Ab Go.Lang Go.Proofs.YtibigfkeaemanaaGreatDoor.X
set_option maxRecDepth 100000
def ParseP (h:AH) (rs:R Lang.Prog) (r:Res) (h':AH):Prop:=Kp h.size h h'∧match rs with
 | .ok p=>∃ q,r=.ret (.tuple #[.pointer (some ⟨q,0,none⟩),.agg #[.int .i64 0,.int .i64 0]])∧h.size ≤ q∧q < h'.size∧h'.get q=some (.cells (celP p).toArray 66 (0,0),none)
 | .error f=>r=.ret (.tuple #[.pointer none,.agg #[.int .i64 f.1,.int .i64 f.2]])
theorem res5V {h:AH} {x y:Value}:resultsV Tryz.prog h res7 [some x,some y]=seqO [ld1 h x,ldN 2 h y]:=by kernel_rfl
theorem parse_leave {h h1:AH} {p a b:Value} {rs:R Lang.Prog} (g0:h1.get h.size=some (.cells #[p] 22 (0,0),none)) (g1:h1.get (h.size + 1)=some (.cells #[a,b] 25 (0,0),none)) (hq:ParseP h rs (.ret (.tuple #[p,.agg #[a,b]])) h1) :
  retV Tryz.prog res7 (ParseP h rs) [] [some (.pointer (some ⟨h.size,0,none⟩)),some (.pointer (some ⟨h.size + 1,0,none⟩))] h1:=by
 unfold retV
 simp (disch:=(first | exact dz | fail)) only [SXB,SX,reduceIte,Int.reduceLT,Int.reduceLE,Int.reduceToNat,Int.reduceBEq,Int.reduceBNe,Nat.reduceAdd,Nat.reduceMul,Nat.reduceSub,Nat.reduceLeDiff]
 rw [res5V,ldN_full (n:=2) g1 rfl]
 simp (disch:=(first | exact dz | fail)) only [g0,SXB,SX,reduceIte,Int.reduceLT,Int.reduceLE,Int.reduceToNat,Int.reduceBEq,Int.reduceBNe,Nat.reduceAdd,Nat.reduceMul,Nat.reduceSub,Nat.reduceLeDiff]
 exact hq
theorem neq_fault {t:Nat} {a b:Int} {h:AH}:binV Tryz.prog .neq 20 (.tmp t) (.const Value.nilIface) (.iface 25 (.agg #[.int .i64 a,.int .i64 b])) .nilIface h=some (.bool true):=by kernel_rfl
theorem assert_fault {a b:Int}:opTypeAssert Tryz.prog (.iface 25 (.agg #[.int .i64 a,.int .i64 b])) 25 false=some (.agg #[.int .i64 a,.int .i64 b]):=by kernel_rfl
theorem leave_pan {h h1:AH} {f:Nat × Nat} {a b:Value} {rs:R Lang.Prog} (hrs:rs=.error f) (g0:h1.get h.size=some (.cells #[a] 22 (0,0),none)) (g1:h1.get (h.size + 1)=some (.cells #[.int .i64 0,.int .i64 0] 25 (0,0),none)) (K:Kp h.size h h1) :
  panD Tryz.prog res7 (ParseP h rs) [.func (.func 16) #[] #[.pointer (some ⟨h.size,0,none⟩),.pointer (some ⟨h.size + 1,0,none⟩)]] [some (.pointer (some ⟨h.size,0,none⟩)),some (.pointer (some ⟨h.size + 1,0,none⟩))] (faultV f) h1:=by
 unfold panD
 rw [dAllP_cons]
 refine D16p_ok ?_
 unfold D16p faultV
 generalize hs2:stN 2=s2
 generalize hs1:stN 1=s1
 simp (disch:=(first | exact dz | fail)) only [neq_fault,assert_fault,g0,SXB,SX,reduceIte,Int.reduceLT,Int.reduceLE,Int.reduceToNat,Int.reduceBEq,Int.reduceBNe,Nat.reduceAdd,Nat.reduceMul,Nat.reduceSub,Nat.reduceLeDiff]
 subst hs2 hs1
 refine bq_of (stN_full g0 rfl rfl (fun z hz=>by simp [Value.cells] at hz;subst hz;rfl)) ?_
 refine bq_of (stN_full ((get_put_ne (by omega)).trans g1) rfl rfl (fun z hz=>by simp [Value.cells] at hz;rcases hz with rfl | rfl <;> rfl)) ?_
 simp (disch:=(first | exact dz | fail)) only [SXB,SX,reduceIte,Int.reduceLT,Int.reduceLE,Int.reduceToNat,Int.reduceBEq,Int.reduceBNe,Nat.reduceAdd,Nat.reduceMul,Nat.reduceSub,Nat.reduceLeDiff]
 have:=parse_leave (h:=h) (p:=.pointer none) (a:=.int .i64 f.1) (b:=.int .i64 f.2) (rs:=rs) ((get_put_ne (by omega)).trans (get_put_eq rfl)) (get_put_eq rfl) (h1:=(h1.put h.size (some (.cells #[.pointer none] 22 (0,0),none))).put (h.size + 1) (some (.cells (Value.agg #[.int .i64 f.1,.int .i64 f.2]).cells 25 (0,0),none))) ⟨by (repeat (first | exact Kp.refl _ _ | assumption | refine Kp.push ?_ _ _ (by first | omega | (simp only [sz_push,sz_put];omega)) | refine Kp.put ?_ _ _ (by first | omega | (simp only [sz_push,sz_put];omega)))),by rw [hrs]⟩
 unfold retV at this
 rw [dAllP_nil] at this
 simpa only [leftV_ret,cells_agg] using this
theorem leave_ret {h h1:AH} {p a b:Value} {rs:R Lang.Prog} (g0:h1.get h.size=some (.cells #[p] 22 (0,0),none)) (g1:h1.get (h.size + 1)=some (.cells #[a,b] 25 (0,0),none)) (hq:ParseP h rs (.ret (.tuple #[p,.agg #[a,b]])) h1) :
  retV Tryz.prog res7 (ParseP h rs) [.func (.func 16) #[] #[.pointer (some ⟨h.size,0,none⟩),.pointer (some ⟨h.size + 1,0,none⟩)]] [some (.pointer (some ⟨h.size,0,none⟩)),some (.pointer (some ⟨h.size + 1,0,none⟩))] h1:=by
 have:=parse_leave g0 g1 hq
 unfold retV at this ⊢
 rw [dAllP_nil] at this
 rw [dAllP_cons]
 refine D16r_ok ?_
 unfold D16r
 simp (disch:=(first | exact dz | fail)) only [SXB,SX,reduceIte,Int.reduceLT,Int.reduceLE,Int.reduceToNat,Int.reduceBEq,Int.reduceBNe,Nat.reduceAdd,Nat.reduceMul,Nat.reduceSub,Nat.reduceLeDiff]
 simpa only [leftV_ret,cells_agg] using this
theorem parse_ok {h:AH} {s:ByteArray} (G:Glob h):HC Tryz.prog 7 [.string s].toArray h (ParseP h (parseF s)):=by
 refine X7_ok ?_
 unfold X7
 generalize hs1:stN 1=s1
 generalize hs2:stN 2=s2
 generalize hl2:ldN 2=l2
 generalize hl3:ldN 3=l3
 by_cases hbig:4096 < s.size
 ·have e:((s.size:Nat):Int) > 4096:=by omega
  simp (disch:=(first | exact dz | fail)) only [e,SXB,SX,reduceIte,Int.reduceLT,Int.reduceLE,Int.reduceToNat,Int.reduceBEq,Int.reduceBNe,Nat.reduceAdd,Nat.reduceMul,Nat.reduceSub,Nat.reduceLeDiff]
  subst hs1 hs2 hl2 hl3
  refine bq_of (x:=.agg #[.int .i64 1,.int .i64 0]) rfl ?_
  refine bq_of (stN_full (c:=#[.pointer none]) (e:=22) (s:=none) (by rw [get_push_ne (by simp)];exact get_push_eq rfl) rfl rfl (fun z hz=>by simp [Value.cells] at hz;subst hz;rfl)) ?_
  refine bq_of (stN_full (c:=#[.int .i64 0,.int .i64 0]) (e:=25) (s:=none) (by rw [get_put_ne (by omega)];exact get_push_eq (by simp)) rfl rfl (fun z hz=>by simp [Value.cells] at hz;rcases hz with rfl | rfl <;> rfl)) ?_
  unfold retV
  simp (disch:=(first | exact dz | fail)) only [SXB,SX,reduceIte,Int.reduceLT,Int.reduceLE,Int.reduceToNat,Int.reduceBEq,Int.reduceBNe,Nat.reduceAdd,Nat.reduceMul,Nat.reduceSub,Nat.reduceLeDiff]
  rw [res5V,ldN_full (n:=2) (get_put_eq rfl) rfl]
  have g1:((((h.push (.cells #[.pointer none] 22 (0,0)) none).push (.cells #[.int .i64 0,.int .i64 0] 25 (0,0)) none).put h.size (some (.cells #[.pointer none] 22 (0,0),none))).put (h.size + 1) (some (.cells #[.int .i64 1,.int .i64 0] 25 (0,0),none))).get h.size=some (.cells #[.pointer none] 22 (0,0),none):=by rw [get_put_ne (by omega)];exact get_put_eq rfl
  simp (disch:=(first | exact dz | fail)) only [g1,SXB,SX,reduceIte,Int.reduceLT,Int.reduceLE,Int.reduceToNat,Int.reduceBEq,Int.reduceBNe,Nat.reduceAdd,Nat.reduceMul,Nat.reduceSub,Nat.reduceLeDiff]
  refine ⟨by (repeat (first | exact Kp.refl _ _ | assumption | refine Kp.push ?_ _ _ (by first | omega | (simp only [sz_push,sz_put];omega)) | refine Kp.put ?_ _ _ (by first | omega | (simp only [sz_push,sz_put];omega)))),?_⟩
  have hx:parseF s=.error (1,0):=by unfold parseF;rw [if_pos hbig]
  rw [hx]
  rfl
 ·have e:¬ (((s.size:Nat):Int) > 4096):=by omega
  simp (disch:=(first | exact dz | fail)) only [e,SXB,SX,reduceIte,Int.reduceLT,Int.reduceLE,Int.reduceToNat,Int.reduceBEq,Int.reduceBNe,Nat.reduceAdd,Nat.reduceMul,Nat.reduceSub,Nat.reduceLeDiff]
  subst hs1 hs2 hl2 hl3
  have hs:s.size ≤ 4096:=by omega
  refine scan_ok hs ?_
  cases hsc:scanF s (s.size + 1) 0 with
  | error j =>
   intro h2 K2
   have hx:parseF s=.error (160,j):=by unfold parseF;rw [if_neg hbig,hsc]
   have z2:=K2.size
   simp only [sz_push] at z2
   have g0:h2.get h.size=some (.cells #[.pointer none] 22 (0,0),none):=by rw [K2.get _ (by simp;omega),get_push_ne (by simp)];exact get_push_eq rfl
   have g1:h2.get (h.size + 1)=some (.cells #[.int .i64 0,.int .i64 0] 25 (0,0),none):=by rw [K2.get _ (by simp)];exact get_push_eq (by simp)
   simp only [resK_ret]
   refine bq_of (x:=.slice none 0 0) rfl ?_
   refine bq_of (x:=.agg #[.int .i64 160,.int .i64 (j:Nat)]) rfl ?_
   refine bq_of (stN_full g1 rfl rfl (fun z hz=>by simp [Value.cells] at hz;rcases hz with rfl | rfl <;> rfl)) ?_
   refine bq_of (ldN_full (get_put_eq rfl) rfl) ?_
   generalize hs1:stN 1=s1
   generalize hs2:stN 2=s2
   generalize hl2:ldN 2=l2
   have e160:((160:Int) == 0)=false:=rfl
   simp (disch:=(first | exact dz | fail)) only [e160,SXB,SX,reduceIte,Int.reduceLT,Int.reduceLE,Int.reduceToNat,Int.reduceBEq,Int.reduceBNe,Nat.reduceAdd,Nat.reduceMul,Nat.reduceSub,Nat.reduceLeDiff]
   subst hs1 hs2 hl2
   refine bq_of (ldN_full (get_put_eq rfl) rfl) ?_
   refine bq_of (stN_full ((get_put_ne (by omega)).trans g0) rfl rfl (fun z hz=>by simp [Value.cells] at hz;subst hz;rfl)) ?_
   refine ⟨bq_of (ldN_full ((get_put_ne (by omega)).trans (get_put_eq rfl)) rfl) rfl,?_⟩
   refine bq_of (stN_full ((get_put_ne (by omega)).trans (get_put_eq rfl)) rfl rfl (fun z hz=>by simp [Value.cells] at hz;rcases hz with rfl | rfl <;> rfl)) ?_
   refine parse_leave (p:=.pointer none) (a:=.int .i64 160) (b:=.int .i64 (j:Nat)) ((get_put_ne (by omega)).trans (get_put_eq rfl)) (get_put_eq rfl) ?_
   rw [hx]
   refine ⟨?_,rfl⟩
   have K3:Kp h.size h h2:=⟨by omega,fun k hk=>(K2.get k (by simp;omega)).trans (by rw [get_push_ne (by simp;omega),get_push_ne (by omega)])⟩
   (repeat (first | exact Kp.refl _ _ | assumption | refine Kp.push ?_ _ _ (by first | omega | (simp only [sz_push,sz_put];omega)) | refine Kp.put ?_ _ _ (by first | omega | (simp only [sz_push,sz_put];omega))))
  | ok ts =>
   intro h2 v K2 O hb
   have hx:parseF s=programF ts:=by unfold parseF;rw [if_neg hbig,hsc]
   obtain ⟨tok,hlen⟩:=scanF_ok hs _ _ _ (Nat.zero_le _) hsc
   have z2:=K2.size
   have zG:=G.size
   simp only [sz_push] at z2
   have g0:h2.get h.size=some (.cells #[.pointer none] 22 (0,0),none):=by rw [K2.get _ (by simp;omega),get_push_ne (by simp)];exact get_push_eq rfl
   have g1:h2.get (h.size + 1)=some (.cells #[.int .i64 0,.int .i64 0] 25 (0,0),none):=by rw [K2.get _ (by simp)];exact get_push_eq (by simp)
   rw [List.nil_append] at O
   simp only [resK_ret]
   refine bq_of (x:=v) rfl ?_
   refine bq_of (x:=.agg #[.int .i64 0,.int .i64 0]) rfl ?_
   refine bq_of (stN_full g1 rfl rfl (fun z hz=>by simp [Value.cells] at hz;rcases hz with rfl | rfl <;> rfl)) ?_
   refine bq_of (ldN_full (get_put_eq rfl) rfl) ?_
   have hkey:∀ k,blkOf v=some k→h.size + 4 ≤ k:=fun k hk=>by have:=O.key k hk;simp at this;omega
   have O2:Ab.Own 55 3 (h2.put (h.size + 1) (some (.cells (Value.agg #[.int .i64 0,.int .i64 0]).cells 25 (0,0),none))) v (ts.map encT):=(Own.of_hld O).mono fun k hk=>get_put_ne (by have:=hkey k hk;omega)
   have K3:Kp h.size h (h2.put (h.size + 1) (some (.cells (Value.agg #[.int .i64 0,.int .i64 0]).cells 25 (0,0),none))):=⟨by simp;omega,fun k hk=>(get_put_ne (by omega)).trans ((K2.get k (by simp;omega)).trans (by rw [get_push_ne (by simp;omega),get_push_ne (by omega)]))⟩
   have g03:=(get_put_ne (h:=h2) (k:=h.size + 1) (j:=h.size) (v:=some (.cells (Value.agg #[.int .i64 0,.int .i64 0]).cells 25 (0,0),none)) (by omega)).trans g0
   have g13:=get_put_eq (h:=h2) (k:=h.size + 1) (j:=h.size + 1) (v:=some (.cells (Value.agg #[.int .i64 0,.int .i64 0]).cells 25 (0,0),none)) rfl
   have hb3:∀ k,blkOf v=some k→k < (h2.put (h.size + 1) (some (.cells (Value.agg #[.int .i64 0,.int .i64 0]).cells 25 (0,0),none))).size:=fun k hk=>by simpa using hb k hk
   have z3:h.size + 2 ≤ (h2.put (h.size + 1) (some (.cells (Value.agg #[.int .i64 0,.int .i64 0]).cells 25 (0,0),none))).size:=by simp;omega
   generalize h2.put (h.size + 1) (some (.cells (Value.agg #[.int .i64 0,.int .i64 0]).cells 25 (0,0),none))=h3 at O2 K3 g03 g13 hb3 z3 ⊢
   obtain ⟨e,he⟩:∃ e,ts[ts.length - 1]?=some e:=⟨ts[ts.length - 1]'(by have:=tok.pos;omega),List.getElem?_eq_getElem _⟩
   have hpos:=tok.pos
   have R:=O2.rd (encTs_size ts) hb3
   have elen:=O2.len
   rw [List.length_map] at elen
   obtain ⟨p,q1,q2,q3⟩:=R.el (ts.length - 1) (encT e) (by simp [he])
   have q4:=q2.ldN (n:=3) rfl
   rw [encT_cells] at q4
   have ew:IntKind.i64.wrap ((ts.length:Int) - 1)=((ts.length - 1:Nat):Int):=by rw [wrap64 (by omega) (by omega)];omega
   have ew2:(ts.length:Int) - 1=((ts.length - 1:Nat):Int):=by omega
   have e00:((0:Int) == 0)=true:=rfl
   have e7:bdF #[.int .i64 0,.int .i64 0,.string ⟨#[]⟩] [(0,3,.agg #[.int .i64 e.cls,.int .i64 e.at_,.string e.text])]=some #[.int .i64 e.cls,.int .i64 e.at_,.string e.text]:=rfl
   have hls:=K3.size
   generalize hs1:stN 1=s1
   generalize hs2:stN 2=s2
   generalize hl2:ldN 2=l2
   simp (disch:=(first | exact dz | fail)) only [e00,elen,ew,ew2,q1,q4,e7,SXB,SX,reduceIte,Int.reduceLT,Int.reduceLE,Int.reduceToNat,Int.reduceBEq,Int.reduceBNe,Nat.reduceAdd,Nat.reduceMul,Nat.reduceSub,Nat.reduceLeDiff]
   subst hs1 hs2 hl2
   obtain ⟨s',h4,a1,a2,a3,a4,a5⟩:=O2.append1 (v:=encT e) (c:=#[.int .i64 e.cls,.int .i64 e.at_,.string e.text]) (bytes:=32) (zero:=.agg #[.int .i64 0,.int .i64 0,.string ⟨#[]⟩]) rfl hb3 (encTs_size ts) rfl (fun z hz=>by simp at hz;rcases hz with rfl | rfl | rfl <;> rfl) (by omega) (by omega) (by omega) rfl (by simp;omega)
   refine bq_of a1 ?_
   dsimp only
   have hbs:∀ k,blkOf s' = some k→h.size + 2 ≤ k∧k < h4.size:=fun k hk=>by
    rcases a5 with e1 | ⟨k',e1,b1,b2⟩
    ·rw [e1] at hk;have:=hkey k hk;have:=hb3 k hk;omega
    ·rw [e1] at hk;cases hk;omega
   obtain ⟨x1,x2,x3,rfl⟩:=a2.isSl
   refine bq_of (x:=.agg #[.slice x1 x2 x3,.slice none 0 0,.int .i64 0,.int .i64 0,.int .i64 0]) rfl ?_
   have f4:∀ k,k < h3.size→blkOf v ≠ some k→h4.get k=h3.get k:=a4
   have nv:∀ k,k < h.size + 2→blkOf v ≠ some k:=fun k hk e=>by have:=hkey k e;omega
   have ns:∀ k,k < h.size + 2→blkOf (.slice x1 x2 x3) ≠ some k:=fun k hk e=>by have:=hbs k e;omega
   have O5:Ab.Own 55 3 (h4.push (.cells #[.slice x1 x2 x3,.slice none 0 0,.int .i64 0,.int .i64 0,.int .i64 0] 58 (0,0)) none) (.slice x1 x2 x3) ((ts++[e]).map encT):=by
    rw [List.map_append]
    exact a2.mono fun k hk=>get_push_ne (by have:=hbs k hk;omega)
   rcases O5.turn (P:=Tryz.prog) (by omega) (encTs_size _) with ⟨_,hnil⟩ | ⟨h6,gu,gf,gs⟩
   ·simp at hnil
   have hkn:blkOf (.slice x1 x2 x3) ≠ some h4.size:=fun e=>by have:=hbs _ e;omega
   have gr:=gu.row (k:=h4.size) (c:=[.slice x1 x2 x3,.slice none 0 0,.int .i64 0,.int .i64 0,.int .i64 0]) (c':=[tokV e ts,.slice none 0 0,.int .i64 0,.int .i64 0,.int .i64 0]) (e:=58) (get_push_eq rfl) (gf _ hkn) (.cons .here (.cons (.same _) (.cons (.same _) (.cons (.same _) (.cons (.same _) .nil)))))
   refine HC.gh (pre:=[]) (post:=[]) (Gh.turn gr (.same _)) ?_
   have hs6:h6.size=h4.size + 1:=by rw [gs];simp
   have g7:∀ k,k < h.size + 2→(h6.put h4.size (some (.cells [tokV e ts,.slice none 0 0,.int .i64 0,.int .i64 0,.int .i64 0].toArray 58 (0,0),none))).get k=h3.get k:=fun k hk=>by
    rw [get_put_ne (by omega),gf k (ns k hk),get_push_ne (by omega)]
    exact f4 k (by omega) (nv k hk)
   have A7:Adv h4.size h (h6.put h4.size (some (.cells [tokV e ts,.slice none 0 0,.int .i64 0,.int .i64 0,.int .i64 0].toArray 58 (0,0),none))):=⟨by rw [sz_put];omega,fun k hk _=>(g7 k (by omega)).trans (K3.get k hk)⟩
   have S7:PS (h6.put h4.size (some (.cells [tokV e ts,.slice none 0 0,.int .i64 0,.int .i64 0,.int .i64 0].toArray 58 (0,0),none))) h4.size e ts (.slice none 0 0) [] 0 0 0:=⟨get_put_eq rfl,(.nil:Ab.Own 86 2 _ _ _),(fun e=>nomatch e),by rw [sz_put];omega,(fun k hk=>nomatch hk)⟩
   have g07:=(g7 h.size (by omega)).trans g03
   have g17:=(g7 (h.size + 1) (by omega)).trans g13
   have hs7:(h6.put h4.size (some (.cells [tokV e ts,.slice none 0 0,.int .i64 0,.int .i64 0,.int .i64 0].toArray 58 (0,0),none))).size=h4.size + 1:=by rw [sz_put];exact hs6
   have G7:=G.adv A7 (by omega)
   generalize h6.put h4.size (some (.cells [tokV e ts,.slice none 0 0,.int .i64 0,.int .i64 0,.int .i64 0].toArray 58 (0,0),none))=h7 at A7 S7 g07 g17 hs7 G7 ⊢
   refine HC.mono (program_ok S7 (by omega) G7 tok (by omega)) fun r h8 hp=>?_
   cases hpr:programF ts with
   | error f =>
    rw [hpr] at hp
    obtain ⟨rfl,A8⟩:=hp
    simp only [resK_pan]
    exact leave_pan (a:=.pointer none) (b:=.nilIface) (hx.trans hpr) ((A8.get _ (by omega) (by omega)).trans g07) ((A8.get _ (by omega) (by omega)).trans g17) ⟨by have:=A8.size;omega,fun k hk=>(A8.get k (by omega) (by omega)).trans (A7.get k hk (by omega))⟩
   | ok pr =>
    rw [hpr] at hp
    obtain ⟨rfl,gp,hs8,A8⟩:=hp
    simp only [resK_ret]
    refine bq_of (stN_full ((A8.get _ (by omega) (by omega)).trans g07) rfl rfl (fun z hz=>by simp [Value.cells] at hz;subst hz;rfl)) ?_
    refine bq_of (stN_full ((get_put_ne (by omega)).trans ((A8.get _ (by omega) (by omega)).trans g17)) rfl rfl (fun z hz=>by simp [Value.cells] at hz;rcases hz with rfl | rfl <;> rfl)) ?_
    refine leave_ret (p:=.pointer (some ⟨h7.size + 1,0,none⟩)) (a:=.int .i64 0) (b:=.int .i64 0) ((get_put_ne (by omega)).trans (get_put_eq rfl)) (get_put_eq rfl) ⟨⟨by have:=A8.size;simp;omega,fun k hk=>(get_put_ne (by omega)).trans ((get_put_ne (by omega)).trans ((A8.get k (by omega) (by omega)).trans (A7.get k hk (by omega))))⟩,?_⟩
    rw [hx,hpr]
    exact ⟨h7.size + 1,rfl,by omega,by simp;omega,(get_put_ne (by omega)).trans ((get_put_ne (by omega)).trans gp)⟩
end Go.Proofs.YtibigfkeaemanaaGreatDoor.L
end
section
namespace Go.Lang
set_option maxRecDepth 100000
abbrev textCounts:ByteArray:=⟨#[109,97,112,32,123,32,101,97,99,104,32,119,32,105,110,32,118,97,108,117,101,32,98,121,32,34,32,34,32,123,32,101,109,105,116,32,119,44,32,34,49,34,59,32,125,32,125,32,114,101,100,117,99,101,32,123,32,101,109,105,116,32,107,101,121,44,32,116,101,120,116,40,115,117,109,40,118,97,108,117,101,115,41,41,59,32,125]⟩
def progCounts:Prog:=⟨[(.mk ⟨#[101,97,99,104]⟩ ⟨#[119]⟩ (.mk ⟨#[118,97,114]⟩ 16 0 ⟨#[118,97,108,117,101]⟩ []) (.mk ⟨#[115,116,114,105,110,103]⟩ 25 0 ⟨#[32]⟩ []) [(.mk ⟨#[101,109,105,116]⟩ ⟨#[]⟩ (.mk ⟨#[118,97,114]⟩ 36 0 ⟨#[119]⟩ []) (.mk ⟨#[115,116,114,105,110,103]⟩ 39 0 ⟨#[49]⟩ []) [] [])] [])],[],[(.mk ⟨#[101,109,105,116]⟩ ⟨#[]⟩ (.mk ⟨#[118,97,114]⟩ 62 0 ⟨#[107,101,121]⟩ []) (.mk ⟨#[116,101,120,116]⟩ 67 0 ⟨#[]⟩ [(.mk ⟨#[115,117,109]⟩ 72 0 ⟨#[]⟩ [(.mk ⟨#[118,97,114]⟩ 76 0 ⟨#[118,97,108,117,101,115]⟩ [])])]) [] [])],false,false,(.mk ⟨#[]⟩ 0 0 ⟨#[]⟩ [])⟩
theorem readCounts:parseF textCounts=.ok progCounts:=by kernel_rfl
end Go.Lang
end
section
namespace Go.Lang
open Go.Lib
set_option maxRecDepth 100000
theorem boundV_of {n:Int} (h1:-1099511627776 ≤ n) (h2:n ≤ 1099511627776):boundV n=n:=by unfold boundV maxNum;omega
def cutV (s:ByteArray) (f c:Int):ByteArray:=let f:=min (max f 0) s.size;let k:=min (max c 0) (s.size - f);cellV (s.extract f.toNat (f.toNat + k.toNat))
end Go.Lang
end
section
namespace Go.Lang
open Go.Lib
set_option maxRecDepth 100000
def one1:ByteArray:=⟨#[49]⟩
theorem counts_run (it:Int→ByteArray) (k v:ByteArray):mapV it progCounts k v=(piecesV [32] 256 v.data.toList).foldl (fun o p=>if o.length < 1024 then o++[((⟨p.toArray⟩:ByteArray),one1)] else o) []:=by kernel_rfl
theorem counts_red (it:Int→ByteArray) (k:ByteArray) (l:List ByteArray):reduceV it progCounts k l=[(k,it (foldV (· + ·) l).n)]:=by kernel_rfl
theorem pieces_len (b:List UInt8):∀ (k:Nat) (s:List UInt8),(piecesV b k s).length ≤ k
 | 0,s=>by simp [piecesV]
 | k + 1,s=>by
  unfold piecesV
  split
  ·simp
  ·rename_i i _
   have:=pieces_len b k (s.drop (i + b.length))
   simp only [List.length_cons]
   exact Nat.succ_le_succ this
theorem fold_emit:∀ (l:List (List UInt8)) (o:Out),o.length + l.length ≤ 1024→l.foldl (fun o p=>if o.length < 1024 then o++[((⟨p.toArray⟩:ByteArray),one1)] else o) o=o++l.map fun p=>((⟨p.toArray⟩:ByteArray),one1)
 | [],o,_=>by simp
 | p::l,o,h=>by
  simp only [List.length_cons] at h
  rw [List.foldl_cons,if_pos (by omega),fold_emit l _ (by simp;omega)]
  simp
theorem counts_map (it:Int→ByteArray) (k v:ByteArray):mapV it progCounts k v=(piecesV [32] 256 v.data.toList).map fun p=>((⟨p.toArray⟩:ByteArray),one1):=by
 rw [counts_run,fold_emit _ _ (by have:=pieces_len [32] 256 v.data.toList;simp;omega)]
 simp
theorem idx_none {w:List UInt8} (h:32 ∉ w):indexV w [32]=none:=by
 unfold indexV
 rw [List.find?_eq_none]
 intro i hi hp
 have h1:[32] <+: w.drop i:=by simpa using hp
 have:(32:UInt8) ∈ w.drop i:=h1.subset (by simp)
 exact h (List.mem_of_mem_drop this)
theorem idx_some {w r:List UInt8} (h:32 ∉ w):indexV (w++32::r) [32]=some w.length:=by
 unfold indexV
 rw [List.find?_range_eq_some]
 refine ⟨by simp,by simp;omega,fun j hj=>?_⟩
 rw [Bool.not_eq_true']
 apply Bool.eq_false_iff.2
 intro hp
 have h1:[32] <+: (w++32::r).drop j:=by simpa using hp
 rw [List.drop_append_of_le_length (by omega)] at h1
 obtain ⟨t,ht⟩:=h1
 have hne:w.drop j ≠ []:=by simp;omega
 cases hd:w.drop j with
 | nil=>exact hne hd
 | cons c d =>
  rw [hd] at ht
  simp at ht
  have:c ∈ w.drop j:=by rw [hd];simp
  rw [← ht.1] at this
  exact h (List.mem_of_mem_drop this)
def joinW:List (List UInt8)→List UInt8
 | []=>[]
 | [w]=>w
 | w::x::l=>w++32::joinW (x::l)
theorem pieces_words:∀ (ws:List (List UInt8)) (k:Nat),ws ≠ []→ws.length ≤ k→(∀ w ∈ ws,32 ∉ w)→piecesV [32] k (joinW ws)=ws
 | [],_,h,_,_=>absurd rfl h
 | w::l,0,_,h,_=>by simp at h
 | [w],k + 1,_,_,hb=>by
  unfold piecesV joinW
  rw [if_neg (by simp),idx_none (hb w (by simp))]
 | w::x::l,k + 1,_,h,hb=>by
  unfold piecesV joinW
  rw [if_neg (by simp),idx_some (hb w (by simp))]
  simp only [List.take_left',List.length_singleton]
  rw [show (w++32::joinW (x::l)).drop (w.length + 1)=joinW (x::l) by simp]
  rw [pieces_words (x::l) k (by simp) (by simp at h ⊢;omega) fun y hy=>hb y (List.mem_cons_of_mem _ hy)]
theorem joinW_snoc:∀ (ws:List (List UInt8)) (w:List UInt8),ws ≠ []→joinW (ws++[w])=joinW ws++32::w
 | [],_,h=>absurd rfl h
 | [x],w,_=>rfl
 | x::y::l,w,_=>by
  have:=joinW_snoc (y::l) w (by simp)
  simp only [List.cons_append] at this ⊢
  show x++32::joinW (y::(l++[w]))=_
  rw [this]
  show _=(x++32::joinW (y::l))++32::w
  simp
theorem parse_one:parseV one1=1:=by kernel_rfl
theorem fold_ones:∀ (n:Nat) (a:Int),0 ≤ a→a + n ≤ 1099511627776→(List.replicate n one1).foldl (fun n x=>boundV (n + parseV x)) a=a + n
 | 0,a,_,_=>by simp
 | n + 1,a,h,h2=>by
  rw [List.replicate_succ,List.foldl_cons,parse_one,boundV_of (by omega) (by omega),fold_ones n (a + 1) (by omega) (by omega)]
  omega
theorem sum_ones (n:Nat) (h:n ≤ 1024):(foldV (· + ·) (List.replicate n one1)).n=n:=by
 cases n with
 | zero=>rfl
 | succ n =>
  rw [List.replicate_succ]
  show (List.replicate n one1).foldl (fun n x=>boundV (n + parseV x)) (parseV one1)=_
  rw [parse_one,fold_ones n 1 (by omega) (by omega)]
  omega
theorem counts_law (ws:List (List UInt8)) (k:ByteArray) (h1:ws ≠ []) (h2:ws.length ≤ 256) (hb:∀ w ∈ ws,32 ∉ w):mapV itoaB progCounts k ⟨(joinW ws).toArray⟩=ws.map fun p=>((⟨p.toArray⟩:ByteArray),one1):=by
 rw [counts_map]
 have:(ByteArray.mk (joinW ws).toArray).data.toList=joinW ws:=by simp
 rw [this,pieces_words ws 256 h1 h2 hb]
theorem counts_sum (n:Nat) (h:n ≤ 1024) (k:ByteArray):reduceV itoaB progCounts k (List.replicate n one1)=[(k,itoaB n)]:=by rw [counts_red,sum_ones n h]
end Go.Lang
end
section
namespace Go.Proofs.YtibigfkeaemanaaGreatDoor.L
open Go.Ab Go.Lang Go.Proofs.YtibigfkeaemanaaGreatDoor.X
set_option maxRecDepth 100000
theorem gsTurn {P:Program} {e z:Nat} {h:AH} {s:Value} {l:List Value} (o:Gs e z h s l) (hz:0 < z) (hl:∀ v ∈ l,v.cells.size=z) :
  ∃ h₂ s',GhU P h h₂ s s'∧(∀ k,blkOf s ≠ some k→h₂.get k=h.get k)∧h₂.size=h.size∧Sl s' l:=by
 cases o with
 | nil=>exact ⟨h,_,.refl,fun _ _=>rfl,rfl,.nil⟩
 | row hg hsp hc hx hp =>
  rename_i k c x sp
  have hall:∀ v ∈ l++x,v.cells.size=z:=fun v hv=>(List.mem_append.1 hv).elim (hl v) (hx v)
  refine ⟨_,_,GhU.slice (l:=l) hg hz hl rfl (by omega) (fun i v hv=>?_) ?_,fun j hj=>get_put_ne (fun e=>hj (by rw [e];rfl)),rfl,.vs l⟩
  ·rw [hc,Nat.zero_add]
   have hlt:=(List.getElem?_eq_some_iff.1 hv).1
   simp only [List.getElem?_toArray]
   rw [show flatC (l++x)=flatC l++flatC x by simp [flatC],List.getElem?_append_left hlt]
   exact hv
  ·rw [hc];simp [flatC_length hall,Nat.add_mul]
theorem out_row {h:AH} {ov:Value} {out:Lang.Out} (G:Gs 40 2 h ov (out.map encPair)) (hne:out ≠ []):∃ k c cap sp,ov=.slice (some ⟨k,0,none⟩) out.length cap∧h.get k=some (.cells c 40 (0,0),sp) ∧
  ∀ (i:Nat) a b,out[i]?=some (a,b)→c[i * 2]?=some (.string a)∧c[i * 2 + 1]?=some (.string b)∧ldN 2 h (.pointer (some ⟨k,i * 2,none⟩))=some (.agg #[.string a,.string b]):=by
 have hz:∀ w ∈ out.map encPair,w.cells.size=2:=fun w hw=>by
  obtain ⟨q,_,rfl⟩:=List.mem_map.1 hw
  rfl
 have hL:(out.map encPair).length=out.length:=List.length_map ..
 generalize he:out.map encPair=l at G hz hL
 cases G with
 | nil=>cases out with | nil=>exact absurd rfl hne | cons _ _=>cases he
 | row hg hsp hc hx hp =>
  rename_i k c x sp
  subst he
  refine ⟨k,c,_,sp,by rw [hL],hg,fun i a b hi=>?_⟩
  have hall:∀ v ∈ out.map encPair++x,v.cells.size=2:=fun v hv=>(List.mem_append.1 hv).elim (hz v) (hx v)
  have hlt:=(List.getElem?_eq_some_iff.1 hi).1
  have hget:(out.map encPair++x)[i]?=some (encPair (a,b)):=by
   rw [List.getElem?_append_left (by rw [hL];exact hlt),List.getElem?_map,hi];rfl
  have q0:=flatC_at hall 0 hget (by omega)
  have q1:=flatC_at hall 1 hget (by omega)
  have p0:c[i * 2]?=some (.string a):=by rw [hc,List.getElem?_toArray];exact q0
  have p1:c[i * 2 + 1]?=some (.string b):=by rw [hc,List.getElem?_toArray];exact q1
  refine ⟨p0,p1,?_⟩
  have hs:=(Array.getElem?_eq_some_iff.1 p1).1
  rw [ldN_ptr,hg,rowC_cells,Option.bind_some,if_pos (by omega)]
  congr 2
  apply Array.ext
  ·simp;omega
  ·intro j h1 h2
   apply Option.some.inj
   rw [← Array.getElem?_eq_getElem,← Array.getElem?_eq_getElem,Array.getElem?_extract]
   simp at h1
   match j,h2 with
   | 0,_=>rw [if_pos (by omega)];exact p0
   | 1,_=>rw [if_pos (by omega)];exact p1
theorem itoa_2:itoaB 2=⟨#[50]⟩:=by
 unfold itoaB Lib.itoa
 rw [if_neg (by omega),Lib.decDigits,dif_pos (by omega)]
 rfl
structure Gl (h:AH):Prop where
 g:Glob h
 t:Tab h
theorem Gl.kp {h h':AH} (G:Gl h) (K:Kp h.size h h'):Gl h':=⟨G.g.kp K,G.t.kp K⟩
theorem counts_okB:okB progCounts.map=true∧oneB progCounts.map=true∧okB progCounts.reduce=true∧oneB progCounts.reduce=true∧needB progCounts.map ≤ 1000∧needB progCounts.reduce ≤ 1000 :=
 ⟨by kernel_rfl,by kernel_rfl,by kernel_rfl,by kernel_rfl,of_decide_eq_true (by kernel_rfl),of_decide_eq_true (by kernel_rfl)⟩
theorem counts_ab:mapV itoaB progCounts ⟨#[]⟩ ⟨#[97,32,98]⟩=[(⟨#[97]⟩,⟨#[49]⟩),(⟨#[98]⟩,⟨#[49]⟩)]:=by
 rw [counts_map]
 kernel_rfl
theorem counts_11:reduceV itoaB progCounts ⟨#[97]⟩ [⟨#[49]⟩,⟨#[49]⟩]=[(⟨#[97]⟩,⟨#[50]⟩)]:=by
 have:=counts_sum 2 (by omega) ⟨#[97]⟩
 rw [show ((2:Nat):Int)=2 from rfl,itoa_2] at this
 exact this
theorem evspeaks_ok {h:AH} (G:Gl h):HC Tryz.prog 12 [].toArray h fun r h'=>r=.ret (.bool true)∧Kp h.size h h':=by
 refine X12_ok ?_
 unfold X12
 obtain ⟨w1,w2,w3,w4,w5,w6⟩:=counts_okB
 generalize hs2:stN 2=s2
 generalize hl2:ldN 2=l2
 simp (disch:=(first | exact dz | fail)) only [SXB,SX,reduceIte,Int.reduceLT,Int.reduceLE,Int.reduceToNat,Int.reduceBEq,Int.reduceBNe,Nat.reduceAdd,Nat.reduceMul,Nat.reduceSub,Nat.reduceLeDiff]
 subst hs2 hl2
 refine HC.mono (parse_ok G.g) fun r h1 hp=>?_
 have hrd:=readCounts
 unfold textCounts at hrd
 rw [hrd] at hp
 obtain ⟨K1,q,rfl,hq,hq2,gq⟩:=hp
 have z1:=K1.size
 simp only [resK_ret]
 refine bq_of (x:=.pointer (some ⟨q,0,none⟩)) rfl ?_
 refine bq_of (x:=.agg #[.int .i64 0,.int .i64 0]) rfl ?_
 refine bq_of (stN_full (get_push_eq rfl) rfl rfl (fun z hz=>by simp [Value.cells] at hz;rcases hz with rfl | rfl <;> rfl)) ?_
 have gq2:=(get_put_ne (h:=h1.push (.cells #[.int .i64 0,.int .i64 0] 25 (0,0)) none) (k:=h1.size) (j:=q) (v:=some (.cells (Value.agg #[.int .i64 0,.int .i64 0]).cells 25 (0,0),none)) (by omega)).trans ((get_push_ne (by omega)).trans gq)
 have K2:Kp h.size h ((h1.push (.cells #[.int .i64 0,.int .i64 0] 25 (0,0)) none).put h1.size (some (.cells (Value.agg #[.int .i64 0,.int .i64 0]).cells 25 (0,0),none))):=by (repeat (first | exact Kp.refl _ _ | assumption | refine Kp.push ?_ _ _ (by first | omega | (simp only [sz_push,sz_put];omega)) | refine Kp.put ?_ _ _ (by first | omega | (simp only [sz_push,sz_put];omega))))
 have z2:((h1.push (.cells #[.int .i64 0,.int .i64 0] 25 (0,0)) none).put h1.size (some (.cells (Value.agg #[.int .i64 0,.int .i64 0]).cells 25 (0,0),none))).size=h1.size + 1:=by simp
 generalize ((h1.push (.cells #[.int .i64 0,.int .i64 0] 25 (0,0)) none).put h1.size (some (.cells (Value.agg #[.int .i64 0,.int .i64 0]).cells 25 (0,0),none)))=h2 at gq2 K2 z2 ⊢
 have G2:=G.kp K2
 refine HC.mono (evmap_ok (M:=5000) (by omega) (by omega) w1 (.inr w2) (by omega) G2.t gq2 (key:=⟨#[]⟩) (val:=⟨#[97,32,98]⟩) (of_decide_eq_true (by kernel_rfl)) (of_decide_eq_true (by kernel_rfl))) fun r h3 hp=>?_
 obtain ⟨ov,rfl,K3,O3,b3⟩:=hp
 rw [counts_ab] at O3
 have z3:=K3.size
 simp only [resK_ret]
 have LG:Gs 9 1 (h3.push (.cells #[.string ⟨#[49]⟩,.string ⟨#[49]⟩] 9 (0,0)) none) (.slice (some ⟨h3.size,0,none⟩) 2 2) (strL [⟨#[49]⟩,⟨#[49]⟩]):=.row (l:=[.string ⟨#[49]⟩,.string ⟨#[49]⟩]) (x:=[]) (get_push_eq rfl) (.inl rfl) rfl (by simp) (by simp)
 obtain ⟨h4,s',gu,gf,gsz,sl⟩:=gsTurn (P:=Tryz.prog) LG (by omega) (strL_size _)
 refine HC.gh (pre:=[.pointer (some ⟨q,0,none⟩),.string ⟨#[97]⟩]) (post:=[]) (Gh.turn gu .here) ?_
 have K4:Kp h3.size h3 h4:=⟨by rw [gsz];simp,fun k hk=>(gf k (fun e=>by simp [blkOf] at e;omega)).trans (get_push_ne (by omega))⟩
 have z4:=K4.size
 have K24:Kp h2.size h2 h4:=⟨by omega,fun k hk=>(K4.get k (by omega)).trans (K3.get k hk)⟩
 have G4:=G2.kp K24
 refine HC.mono (evreduce_ok (M:=5000) (p:=progCounts) (by omega) (by omega) w3 (.inr w4) (by omega) G4.t ((K24.get q (by omega)).trans gq2) (key:=⟨#[97]⟩) (of_decide_eq_true (by kernel_rfl)) (l:=[⟨#[49]⟩,⟨#[49]⟩]) sl (fun s hs=>by simp at hs;subst hs;exact of_decide_eq_true (by kernel_rfl)) (by simp)) fun r h5 hp=>?_
 obtain ⟨ov2,rfl,K5,O5,b5⟩:=hp
 rw [counts_11] at O5
 have z5:=K5.size
 have O3':=O3.mono (h':=h5) fun k hk=>by
  have:=b3 k hk
  exact (K5.get k (by omega)).trans (K4.get k (by omega))
 obtain ⟨k1,c1,cap1,sp1,rfl,r1,f1⟩:=out_row O3' (by simp)
 obtain ⟨k2,c2,cap2,sp2,rfl,r2,f2⟩:=out_row O5 (by simp)
 obtain ⟨_,_,l1⟩:=f1 1 ⟨#[98]⟩ ⟨#[49]⟩ rfl
 obtain ⟨_,_,l2⟩:=f2 0 ⟨#[97]⟩ ⟨#[50]⟩ rfl
 have K15:Kp h.size h h5:=⟨by have:=K2.size;omega,fun k hk=>(K5.get k (by have:=K2.size;omega)).trans ((K24.get k (by have:=K2.size;omega)).trans (K2.get k hk))⟩
 simp only [resK_ret]
 generalize hl2:ldN 2=ll at l1 l2
 have e2:(((2:Nat):Int) == 2)=true:=rfl
 have e1:(((1:Nat):Int) == 1)=true:=rfl
 have e3:(1:Int) < ((2:Nat):Int):=by omega
 have e4:(0:Int) < ((1:Nat):Int):=by omega
 simp (disch:=(first | exact dz | fail)) only [e1,e2,e3,e4,l1,l2,SXB,SX,reduceIte,Int.reduceLT,Int.reduceLE,Int.reduceToNat,Int.reduceBEq,Int.reduceBNe,Nat.reduceAdd,Nat.reduceMul,Nat.reduceSub,Nat.reduceLeDiff]
 refine bq_of (x:=.agg #[.string ⟨#[98]⟩,.string ⟨#[49]⟩]) rfl ?_
 have s1:((ByteArray.mk #[98]).toList == (ByteArray.mk #[98]).toList)=true:=beq_self_eq_true _
 have s2:((ByteArray.mk #[49]).toList == (ByteArray.mk #[49]).toList)=true:=beq_self_eq_true _
 simp (disch:=(first | exact dz | fail)) only [s1,s2,e1,e4,l2,SXB,SX,reduceIte,Int.reduceLT,Int.reduceLE,Int.reduceToNat,Int.reduceBEq,Int.reduceBNe,Nat.reduceAdd,Nat.reduceMul,Nat.reduceSub,Nat.reduceLeDiff]
 refine bq_of (x:=.agg #[.string ⟨#[97]⟩,.string ⟨#[50]⟩]) rfl ?_
 have s3:((ByteArray.mk #[97]).toList == (ByteArray.mk #[97]).toList)=true:=beq_self_eq_true _
 have s4:((ByteArray.mk #[50]).toList == (ByteArray.mk #[50]).toList)=true:=beq_self_eq_true _
 simp (disch:=(first | exact dz | fail)) only [s3,s4,SXB,SX,reduceIte,Int.reduceLT,Int.reduceLE,Int.reduceToNat,Int.reduceBEq,Int.reduceBNe,Nat.reduceAdd,Nat.reduceMul,Nat.reduceSub,Nat.reduceLeDiff]
 exact K15
end Go.Proofs.YtibigfkeaemanaaGreatDoor.L
end
section
namespace Go.Ab
theorem any_split {α:Type} (f:α→Bool) (n:Nat) (l:List α) (h1:(l.take n).any f=false) (h2:(l.drop n).any f=false):l.any f=false:=by
 rw [← List.take_append_drop n l,List.any_append,h1,h2]
 rfl
theorem goes_none {P:Program} (h:P.funcs.toList.any Func.goes=false) {c:OpenClaim} (hs:c.start=.entering):false=c.goesBy P:=by
 have hf:∀ g:Nat,((P.funcs[g]?:Option Func).any Func.goes)=false:=by
  intro g
  cases hg:P.funcs[g]? with
  | none=>rfl
  | some fn =>
   have hm:fn ∈ P.funcs.toList:=by
    rw [← Array.getElem?_toList] at hg
    exact List.mem_of_getElem? hg
   have:=List.any_eq_false.1 h fn hm
   simpa using this
 have ha:P.funcs.any Func.goes=false:=by rw [← Array.any_toList];exact h
 have key:∀ f,P.goes f=false:=by
  intro f
  unfold Program.goes
  rw [ha]
  simp only [Bool.and_false,Bool.or_false]
  rw [List.any_eq_false]
  intro g _
  simp [hf g]
 unfold OpenClaim.goesBy Program.goesAt Program.goesFrom
 rw [hs]
 cases hn:P.funcNamed c.func with
 | none=>rfl
 | some f=>simp [key f]
end Go.Ab
end

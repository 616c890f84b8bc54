import Derived.Test.YtnaenhkldanjbaaDoorZ24
import Derived.Test.YtnaenhkldanjbaaDoorZ37
import Derived.Test.YtnaenhkldanjbaaDoorZ38
set_option linter.unusedVariables false
set_option linter.unusedSimpArgs false
section
namespace Go.Proofs.YtnaenhkldanjbaaDoor.L
open Go.Ab Go.Lang Go.Proofs.YtnaenhkldanjbaaDoor.X
set_option maxRecDepth 100000
def ParseP (h:AH) (rs:R Lang.Prog) (r:Res) (h':AH):Prop:=Kp h.size h h'∧match rs with
 | .ok p=>∃ q,r=.ret (.tuple #[.pointer (some ⟨q,0,none⟩),.agg #[.int .i64 0,.int .i64 0]])∧h.size ≤ q∧q < h'.size∧h'.get q=some (.cells (celP p).toArray 43 (0,0),none)
 | .error f=>r=.ret (.tuple #[.pointer none,.agg #[.int .i64 f.1,.int .i64 f.2]])
theorem res5V {h:AH} {x y:Value}:resultsV Tryd.prog h res5 [some x,some y]=seqO [ld1 h x,ldN 2 h y]:=by kernel_rfl
theorem parse_leave {h h1:AH} {p a b:Value} {rs:R Lang.Prog} (g0:h1.get h.size=some (.cells #[p] 23 (0,0),none)) (g1:h1.get (h.size + 1)=some (.cells #[a,b] 26 (0,0),none)) (hq:ParseP h rs (.ret (.tuple #[p,.agg #[a,b]])) h1) :
  retV Tryd.prog res5 (ParseP h rs) [] [some (.pointer (some ⟨h.size,0,none⟩)),some (.pointer (some ⟨h.size + 1,0,none⟩))] h1:=by
 unfold retV
 simp (disch:=(first | exact dz | fail)) only [SXB,SX,reduceIte,Int.reduceLT,Int.reduceLE,Int.reduceToNat,Int.reduceBEq,Int.reduceBNe,Nat.reduceAdd,Nat.reduceMul,Nat.reduceSub,Nat.reduceLeDiff]
 rw [res5V,ldN_full (n:=2) g1 rfl]
 simp (disch:=(first | exact dz | fail)) only [g0,SXB,SX,reduceIte,Int.reduceLT,Int.reduceLE,Int.reduceToNat,Int.reduceBEq,Int.reduceBNe,Nat.reduceAdd,Nat.reduceMul,Nat.reduceSub,Nat.reduceLeDiff]
 exact hq
theorem neq_fault {t:Nat} {a b:Int} {h:AH}:binV Tryd.prog .neq 20 (.tmp t) (.const Value.nilIface) (.iface 26 (.agg #[.int .i64 a,.int .i64 b])) .nilIface h=some (.bool true):=by kernel_rfl
theorem assert_fault {a b:Int}:opTypeAssert Tryd.prog (.iface 26 (.agg #[.int .i64 a,.int .i64 b])) 26 false=some (.agg #[.int .i64 a,.int .i64 b]):=by kernel_rfl
theorem leave_pan {h h1:AH} {f:Nat × Nat} {a b:Value} {rs:R Lang.Prog} (hrs:rs=.error f) (g0:h1.get h.size=some (.cells #[a] 23 (0,0),none)) (g1:h1.get (h.size + 1)=some (.cells #[.int .i64 0,.int .i64 0] 26 (0,0),none)) (K:Kp h.size h h1) :
  panD Tryd.prog res5 (ParseP h rs) [.func (.func 10) #[] #[.pointer (some ⟨h.size,0,none⟩),.pointer (some ⟨h.size + 1,0,none⟩)]] [some (.pointer (some ⟨h.size,0,none⟩)),some (.pointer (some ⟨h.size + 1,0,none⟩))] (faultV f) h1:=by
 unfold panD
 rw [dAllP_cons]
 refine D10p_ok ?_
 unfold D10p faultV
 generalize hs2:stN 2=s2
 generalize hs1:stN 1=s1
 simp (disch:=(first | exact dz | fail)) only [neq_fault,assert_fault,g0,SXB,SX,reduceIte,Int.reduceLT,Int.reduceLE,Int.reduceToNat,Int.reduceBEq,Int.reduceBNe,Nat.reduceAdd,Nat.reduceMul,Nat.reduceSub,Nat.reduceLeDiff]
 subst hs2 hs1
 refine bq_of (stN_full g0 rfl rfl (fun z hz=>by simp [Value.cells] at hz;subst hz;rfl)) ?_
 refine bq_of (stN_full ((get_put_ne (by omega)).trans g1) rfl rfl (fun z hz=>by simp [Value.cells] at hz;rcases hz with rfl | rfl <;> rfl)) ?_
 simp (disch:=(first | exact dz | fail)) only [SXB,SX,reduceIte,Int.reduceLT,Int.reduceLE,Int.reduceToNat,Int.reduceBEq,Int.reduceBNe,Nat.reduceAdd,Nat.reduceMul,Nat.reduceSub,Nat.reduceLeDiff]
 have:=parse_leave (h:=h) (p:=.pointer none) (a:=.int .i64 f.1) (b:=.int .i64 f.2) (rs:=rs) ((get_put_ne (by omega)).trans (get_put_eq rfl)) (get_put_eq rfl) (h1:=(h1.put h.size (some (.cells #[.pointer none] 23 (0,0),none))).put (h.size + 1) (some (.cells (Value.agg #[.int .i64 f.1,.int .i64 f.2]).cells 26 (0,0),none))) ⟨by (repeat (first | exact Kp.refl _ _ | assumption | refine Kp.push ?_ _ _ (by first | omega | (simp only [sz_push,sz_put];omega)) | refine Kp.put ?_ _ _ (by first | omega | (simp only [sz_push,sz_put];omega)))),by rw [hrs]⟩
 unfold retV at this
 rw [dAllP_nil] at this
 simpa only [leftV_ret,cells_agg] using this
theorem leave_ret {h h1:AH} {p a b:Value} {rs:R Lang.Prog} (g0:h1.get h.size=some (.cells #[p] 23 (0,0),none)) (g1:h1.get (h.size + 1)=some (.cells #[a,b] 26 (0,0),none)) (hq:ParseP h rs (.ret (.tuple #[p,.agg #[a,b]])) h1) :
  retV Tryd.prog res5 (ParseP h rs) [.func (.func 10) #[] #[.pointer (some ⟨h.size,0,none⟩),.pointer (some ⟨h.size + 1,0,none⟩)]] [some (.pointer (some ⟨h.size,0,none⟩)),some (.pointer (some ⟨h.size + 1,0,none⟩))] h1:=by
 have:=parse_leave g0 g1 hq
 unfold retV at this ⊢
 rw [dAllP_nil] at this
 rw [dAllP_cons]
 refine D10r_ok ?_
 unfold D10r
 simp (disch:=(first | exact dz | fail)) only [SXB,SX,reduceIte,Int.reduceLT,Int.reduceLE,Int.reduceToNat,Int.reduceBEq,Int.reduceBNe,Nat.reduceAdd,Nat.reduceMul,Nat.reduceSub,Nat.reduceLeDiff]
 simpa only [leftV_ret,cells_agg] using this
theorem parse_ok {h:AH} {s:ByteArray} (G:Glob h):HC Tryd.prog 5 [.string s].toArray h (ParseP h (parseF s)):=by
 refine X5_ok ?_
 unfold X5
 generalize hs1:stN 1=s1
 generalize hs2:stN 2=s2
 generalize hl2:ldN 2=l2
 generalize hl3:ldN 3=l3
 by_cases hbig:4096 < s.size
 ·have e:((s.size:Nat):Int) > 4096:=by omega
  simp (disch:=(first | exact dz | fail)) only [e,SXB,SX,reduceIte,Int.reduceLT,Int.reduceLE,Int.reduceToNat,Int.reduceBEq,Int.reduceBNe,Nat.reduceAdd,Nat.reduceMul,Nat.reduceSub,Nat.reduceLeDiff]
  subst hs1 hs2 hl2 hl3
  refine bq_of (x:=.agg #[.int .i64 1,.int .i64 0]) rfl ?_
  refine bq_of (stN_full (c:=#[.pointer none]) (e:=23) (s:=none) (by rw [get_push_ne (by simp)];exact get_push_eq rfl) rfl rfl (fun z hz=>by simp [Value.cells] at hz;subst hz;rfl)) ?_
  refine bq_of (stN_full (c:=#[.int .i64 0,.int .i64 0]) (e:=26) (s:=none) (by rw [get_put_ne (by omega)];exact get_push_eq (by simp)) rfl rfl (fun z hz=>by simp [Value.cells] at hz;rcases hz with rfl | rfl <;> rfl)) ?_
  unfold retV
  simp (disch:=(first | exact dz | fail)) only [SXB,SX,reduceIte,Int.reduceLT,Int.reduceLE,Int.reduceToNat,Int.reduceBEq,Int.reduceBNe,Nat.reduceAdd,Nat.reduceMul,Nat.reduceSub,Nat.reduceLeDiff]
  rw [res5V,ldN_full (n:=2) (get_put_eq rfl) rfl]
  have g1:((((h.push (.cells #[.pointer none] 23 (0,0)) none).push (.cells #[.int .i64 0,.int .i64 0] 26 (0,0)) none).put h.size (some (.cells #[.pointer none] 23 (0,0),none))).put (h.size + 1) (some (.cells #[.int .i64 1,.int .i64 0] 26 (0,0),none))).get h.size=some (.cells #[.pointer none] 23 (0,0),none):=by rw [get_put_ne (by omega)];exact get_put_eq rfl
  simp (disch:=(first | exact dz | fail)) only [g1,SXB,SX,reduceIte,Int.reduceLT,Int.reduceLE,Int.reduceToNat,Int.reduceBEq,Int.reduceBNe,Nat.reduceAdd,Nat.reduceMul,Nat.reduceSub,Nat.reduceLeDiff]
  refine ⟨by (repeat (first | exact Kp.refl _ _ | assumption | refine Kp.push ?_ _ _ (by first | omega | (simp only [sz_push,sz_put];omega)) | refine Kp.put ?_ _ _ (by first | omega | (simp only [sz_push,sz_put];omega)))),?_⟩
  have hx:parseF s=.error (1,0):=by unfold parseF;rw [if_pos hbig]
  rw [hx]
  rfl
 ·have e:¬ (((s.size:Nat):Int) > 4096):=by omega
  simp (disch:=(first | exact dz | fail)) only [e,SXB,SX,reduceIte,Int.reduceLT,Int.reduceLE,Int.reduceToNat,Int.reduceBEq,Int.reduceBNe,Nat.reduceAdd,Nat.reduceMul,Nat.reduceSub,Nat.reduceLeDiff]
  subst hs1 hs2 hl2 hl3
  have hs:s.size ≤ 4096:=by omega
  refine scan_ok hs ?_
  cases hsc:scanF s (s.size + 1) 0 with
  | error j =>
   intro h2 K2
   have hx:parseF s=.error (160,j):=by unfold parseF;rw [if_neg hbig,hsc]
   have z2:=K2.size
   simp only [sz_push] at z2
   have g0:h2.get h.size=some (.cells #[.pointer none] 23 (0,0),none):=by rw [K2.get _ (by simp;omega),get_push_ne (by simp)];exact get_push_eq rfl
   have g1:h2.get (h.size + 1)=some (.cells #[.int .i64 0,.int .i64 0] 26 (0,0),none):=by rw [K2.get _ (by simp)];exact get_push_eq (by simp)
   simp only [resK_ret]
   refine bq_of (x:=.slice none 0 0) rfl ?_
   refine bq_of (x:=.agg #[.int .i64 160,.int .i64 (j:Nat)]) rfl ?_
   refine bq_of (stN_full g1 rfl rfl (fun z hz=>by simp [Value.cells] at hz;rcases hz with rfl | rfl <;> rfl)) ?_
   refine bq_of (ldN_full (get_put_eq rfl) rfl) ?_
   generalize hs1:stN 1=s1
   generalize hs2:stN 2=s2
   generalize hl2:ldN 2=l2
   have e160:((160:Int) == 0)=false:=rfl
   simp (disch:=(first | exact dz | fail)) only [e160,SXB,SX,reduceIte,Int.reduceLT,Int.reduceLE,Int.reduceToNat,Int.reduceBEq,Int.reduceBNe,Nat.reduceAdd,Nat.reduceMul,Nat.reduceSub,Nat.reduceLeDiff]
   subst hs1 hs2 hl2
   refine bq_of (ldN_full (get_put_eq rfl) rfl) ?_
   refine bq_of (stN_full ((get_put_ne (by omega)).trans g0) rfl rfl (fun z hz=>by simp [Value.cells] at hz;subst hz;rfl)) ?_
   refine ⟨bq_of (ldN_full ((get_put_ne (by omega)).trans (get_put_eq rfl)) rfl) rfl,?_⟩
   refine bq_of (stN_full ((get_put_ne (by omega)).trans (get_put_eq rfl)) rfl rfl (fun z hz=>by simp [Value.cells] at hz;rcases hz with rfl | rfl <;> rfl)) ?_
   refine parse_leave (p:=.pointer none) (a:=.int .i64 160) (b:=.int .i64 (j:Nat)) ((get_put_ne (by omega)).trans (get_put_eq rfl)) (get_put_eq rfl) ?_
   rw [hx]
   refine ⟨?_,rfl⟩
   have K3:Kp h.size h h2:=⟨by omega,fun k hk=>(K2.get k (by simp;omega)).trans (by rw [get_push_ne (by simp;omega),get_push_ne (by omega)])⟩
   (repeat (first | exact Kp.refl _ _ | assumption | refine Kp.push ?_ _ _ (by first | omega | (simp only [sz_push,sz_put];omega)) | refine Kp.put ?_ _ _ (by first | omega | (simp only [sz_push,sz_put];omega))))
  | ok ts =>
   intro h2 v K2 O hb
   have hx:parseF s=programF ts:=by unfold parseF;rw [if_neg hbig,hsc]
   obtain ⟨tok,hlen⟩:=scanF_ok hs _ _ _ (Nat.zero_le _) hsc
   have z2:=K2.size
   have zG:=G.size
   simp only [sz_push] at z2
   have g0:h2.get h.size=some (.cells #[.pointer none] 23 (0,0),none):=by rw [K2.get _ (by simp;omega),get_push_ne (by simp)];exact get_push_eq rfl
   have g1:h2.get (h.size + 1)=some (.cells #[.int .i64 0,.int .i64 0] 26 (0,0),none):=by rw [K2.get _ (by simp)];exact get_push_eq (by simp)
   rw [List.nil_append] at O
   simp only [resK_ret]
   refine bq_of (x:=v) rfl ?_
   refine bq_of (x:=.agg #[.int .i64 0,.int .i64 0]) rfl ?_
   refine bq_of (stN_full g1 rfl rfl (fun z hz=>by simp [Value.cells] at hz;rcases hz with rfl | rfl <;> rfl)) ?_
   refine bq_of (ldN_full (get_put_eq rfl) rfl) ?_
   have hkey:∀ k,blkOf v=some k→h.size + 4 ≤ k:=fun k hk=>by have:=O.key k hk;simp at this;omega
   have O2:Ab.Own 52 3 (h2.put (h.size + 1) (some (.cells (Value.agg #[.int .i64 0,.int .i64 0]).cells 26 (0,0),none))) v (ts.map encT):=(Own.of_hld O).mono fun k hk=>get_put_ne (by have:=hkey k hk;omega)
   have K3:Kp h.size h (h2.put (h.size + 1) (some (.cells (Value.agg #[.int .i64 0,.int .i64 0]).cells 26 (0,0),none))):=⟨by simp;omega,fun k hk=>(get_put_ne (by omega)).trans ((K2.get k (by simp;omega)).trans (by rw [get_push_ne (by simp;omega),get_push_ne (by omega)]))⟩
   have g03:=(get_put_ne (h:=h2) (k:=h.size + 1) (j:=h.size) (v:=some (.cells (Value.agg #[.int .i64 0,.int .i64 0]).cells 26 (0,0),none)) (by omega)).trans g0
   have g13:=get_put_eq (h:=h2) (k:=h.size + 1) (j:=h.size + 1) (v:=some (.cells (Value.agg #[.int .i64 0,.int .i64 0]).cells 26 (0,0),none)) rfl
   have hb3:∀ k,blkOf v=some k→k < (h2.put (h.size + 1) (some (.cells (Value.agg #[.int .i64 0,.int .i64 0]).cells 26 (0,0),none))).size:=fun k hk=>by simpa using hb k hk
   have z3:h.size + 2 ≤ (h2.put (h.size + 1) (some (.cells (Value.agg #[.int .i64 0,.int .i64 0]).cells 26 (0,0),none))).size:=by simp;omega
   generalize h2.put (h.size + 1) (some (.cells (Value.agg #[.int .i64 0,.int .i64 0]).cells 26 (0,0),none))=h3 at O2 K3 g03 g13 hb3 z3 ⊢
   obtain ⟨e,he⟩:∃ e,ts[ts.length - 1]?=some e:=⟨ts[ts.length - 1]'(by have:=tok.pos;omega),List.getElem?_eq_getElem _⟩
   have hpos:=tok.pos
   have R:=O2.rd (encTs_size ts) hb3
   have elen:=O2.len
   rw [List.length_map] at elen
   obtain ⟨p,q1,q2,q3⟩:=R.el (ts.length - 1) (encT e) (by simp [he])
   have q4:=q2.ldN (n:=3) rfl
   rw [encT_cells] at q4
   have ew:IntKind.i64.wrap ((ts.length:Int) - 1)=((ts.length - 1:Nat):Int):=by rw [wrap64 (by omega) (by omega)];omega
   have ew2:(ts.length:Int) - 1=((ts.length - 1:Nat):Int):=by omega
   have e00:((0:Int) == 0)=true:=rfl
   have e7:bdF #[.int .i64 0,.int .i64 0,.string ⟨#[]⟩] [(0,3,.agg #[.int .i64 e.cls,.int .i64 e.at_,.string e.text])]=some #[.int .i64 e.cls,.int .i64 e.at_,.string e.text]:=rfl
   have hls:=K3.size
   generalize hs1:stN 1=s1
   generalize hs2:stN 2=s2
   generalize hl2:ldN 2=l2
   simp (disch:=(first | exact dz | fail)) only [e00,elen,ew,ew2,q1,q4,e7,SXB,SX,reduceIte,Int.reduceLT,Int.reduceLE,Int.reduceToNat,Int.reduceBEq,Int.reduceBNe,Nat.reduceAdd,Nat.reduceMul,Nat.reduceSub,Nat.reduceLeDiff]
   subst hs1 hs2 hl2
   obtain ⟨s',h4,a1,a2,a3,a4,a5⟩:=O2.append1 (v:=encT e) (c:=#[.int .i64 e.cls,.int .i64 e.at_,.string e.text]) (bytes:=32) (zero:=.agg #[.int .i64 0,.int .i64 0,.string ⟨#[]⟩]) rfl hb3 (encTs_size ts) rfl (fun z hz=>by simp at hz;rcases hz with rfl | rfl | rfl <;> rfl) (by omega) (by omega) (by omega) rfl (by simp;omega)
   refine bq_of a1 ?_
   dsimp only
   have hbs:∀ k,blkOf s' = some k→h.size + 2 ≤ k∧k < h4.size:=fun k hk=>by
    rcases a5 with e1 | ⟨k',e1,b1,b2⟩
    ·rw [e1] at hk;have:=hkey k hk;have:=hb3 k hk;omega
    ·rw [e1] at hk;cases hk;omega
   obtain ⟨x1,x2,x3,rfl⟩:=a2.isSl
   refine bq_of (x:=.agg #[.slice x1 x2 x3,.slice none 0 0,.int .i64 0,.int .i64 0,.int .i64 0]) rfl ?_
   have f4:∀ k,k < h3.size→blkOf v ≠ some k→h4.get k=h3.get k:=a4
   have nv:∀ k,k < h.size + 2→blkOf v ≠ some k:=fun k hk e=>by have:=hkey k e;omega
   have ns:∀ k,k < h.size + 2→blkOf (.slice x1 x2 x3) ≠ some k:=fun k hk e=>by have:=hbs k e;omega
   have O5:Ab.Own 52 3 (h4.push (.cells #[.slice x1 x2 x3,.slice none 0 0,.int .i64 0,.int .i64 0,.int .i64 0] 55 (0,0)) none) (.slice x1 x2 x3) ((ts++[e]).map encT):=by
    rw [List.map_append]
    exact a2.mono fun k hk=>get_push_ne (by have:=hbs k hk;omega)
   rcases O5.turn (P:=Tryd.prog) (by omega) (encTs_size _) with ⟨_,hnil⟩ | ⟨h6,gu,gf,gs⟩
   ·simp at hnil
   have hkn:blkOf (.slice x1 x2 x3) ≠ some h4.size:=fun e=>by have:=hbs _ e;omega
   have gr:=gu.row (k:=h4.size) (c:=[.slice x1 x2 x3,.slice none 0 0,.int .i64 0,.int .i64 0,.int .i64 0]) (c':=[tokV e ts,.slice none 0 0,.int .i64 0,.int .i64 0,.int .i64 0]) (e:=55) (get_push_eq rfl) (gf _ hkn) (.cons .here (.cons (.same _) (.cons (.same _) (.cons (.same _) (.cons (.same _) .nil)))))
   refine HC.gh (pre:=[]) (post:=[]) (Gh.turn gr (.same _)) ?_
   have hs6:h6.size=h4.size + 1:=by rw [gs];simp
   have g7:∀ k,k < h.size + 2→(h6.put h4.size (some (.cells [tokV e ts,.slice none 0 0,.int .i64 0,.int .i64 0,.int .i64 0].toArray 55 (0,0),none))).get k=h3.get k:=fun k hk=>by
    rw [get_put_ne (by omega),gf k (ns k hk),get_push_ne (by omega)]
    exact f4 k (by omega) (nv k hk)
   have A7:Adv h4.size h (h6.put h4.size (some (.cells [tokV e ts,.slice none 0 0,.int .i64 0,.int .i64 0,.int .i64 0].toArray 55 (0,0),none))):=⟨by rw [sz_put];omega,fun k hk _=>(g7 k (by omega)).trans (K3.get k hk)⟩
   have S7:PS (h6.put h4.size (some (.cells [tokV e ts,.slice none 0 0,.int .i64 0,.int .i64 0,.int .i64 0].toArray 55 (0,0),none))) h4.size e ts (.slice none 0 0) [] 0 0 0:=⟨get_put_eq rfl,(.nil:Ab.Own 84 2 _ _ _),(fun e=>nomatch e),by rw [sz_put];omega,(fun k hk=>nomatch hk)⟩
   have g07:=(g7 h.size (by omega)).trans g03
   have g17:=(g7 (h.size + 1) (by omega)).trans g13
   have hs7:(h6.put h4.size (some (.cells [tokV e ts,.slice none 0 0,.int .i64 0,.int .i64 0,.int .i64 0].toArray 55 (0,0),none))).size=h4.size + 1:=by rw [sz_put];exact hs6
   have G7:=G.adv A7 (by omega)
   generalize h6.put h4.size (some (.cells [tokV e ts,.slice none 0 0,.int .i64 0,.int .i64 0,.int .i64 0].toArray 55 (0,0),none))=h7 at A7 S7 g07 g17 hs7 G7 ⊢
   refine HC.mono (program_ok S7 (by omega) G7 tok (by omega)) fun r h8 hp=>?_
   cases hpr:programF ts with
   | error f =>
    rw [hpr] at hp
    obtain ⟨rfl,A8⟩:=hp
    simp only [resK_pan]
    exact leave_pan (a:=.pointer none) (b:=.nilIface) (hx.trans hpr) ((A8.get _ (by omega) (by omega)).trans g07) ((A8.get _ (by omega) (by omega)).trans g17) ⟨by have:=A8.size;omega,fun k hk=>(A8.get k (by omega) (by omega)).trans (A7.get k hk (by omega))⟩
   | ok pr =>
    rw [hpr] at hp
    obtain ⟨rfl,gp,hs8,A8⟩:=hp
    simp only [resK_ret]
    refine bq_of (stN_full ((A8.get _ (by omega) (by omega)).trans g07) rfl rfl (fun z hz=>by simp [Value.cells] at hz;subst hz;rfl)) ?_
    refine bq_of (stN_full ((get_put_ne (by omega)).trans ((A8.get _ (by omega) (by omega)).trans g17)) rfl rfl (fun z hz=>by simp [Value.cells] at hz;rcases hz with rfl | rfl <;> rfl)) ?_
    refine leave_ret (p:=.pointer (some ⟨h7.size + 1,0,none⟩)) (a:=.int .i64 0) (b:=.int .i64 0) ((get_put_ne (by omega)).trans (get_put_eq rfl)) (get_put_eq rfl) ⟨⟨by have:=A8.size;simp;omega,fun k hk=>(get_put_ne (by omega)).trans ((get_put_ne (by omega)).trans ((A8.get k (by omega) (by omega)).trans (A7.get k hk (by omega))))⟩,?_⟩
    rw [hx,hpr]
    exact ⟨h7.size + 1,rfl,by omega,by simp;omega,(get_put_ne (by omega)).trans ((get_put_ne (by omega)).trans gp)⟩
end Go.Proofs.YtnaenhkldanjbaaDoor.L
end
section
namespace Go.Proofs.YtnaenhkldanjbaaDoor.L
open Go.Ab Go.Lang Go.Proofs.YtnaenhkldanjbaaDoor.X
set_option maxRecDepth 100000
def prog0:Lang.Prog:=⟨[],[],[],false,false,.zero⟩
def RParseP (h:AH) (rs:R Lang.Prog) (r:Res) (h':AH):Prop:=Kp h.size h h'∧match rs with
 | .ok p=>r=.ret (.tuple #[.agg (celP p).toArray,.int .i64 0,.int .i64 0])
 | .error f=>r=.ret (.tuple #[.agg (celP prog0).toArray,.int .i64 f.1,.int .i64 f.2])∧f.1 ≠ 0
structure RQ (ow:Bool) (h h1:AH) (kp:Nat) (T:List Tok) (i:Nat) (st:LS) (bv:Value) (vs:List Var) (p:Lang.Prog):Prop where
 res:h1.get h.size=some (.cells (celP prog0).toArray 34 (0,0),none)
 many:h1.get (kp + 1)=some (.cells #[.string wKey,.int .u8 116,.string wValues,.int .u8 108] 65 (0,0),none)
 out:h1.get (kp + 2)=some (.cells (celP p).toArray 34 (0,0),none)
 size:kp + 3 ≤ h1.size
 S:RSg ow h1 kp T i st bv vs 0 0 0
 K:Kp h.size h h1
 hb:∀ k,blkOf bv=some k→kp + 3 ≤ k
 lt:h.size + 1 ≤ kp
section
variable {ow:Bool} {h h1:AH} {kp i:Nat} {T:List Tok} {st:LS} {bv:Value} {vs:List Var} {p:Lang.Prog}
theorem RQ.adv {h2:AH} {i2:Nat} {st2:LS} (x:RQ ow h h1 kp T i st bv vs p) (S2:RSg ow h2 kp T i2 st2 bv vs 0 0 0) (a:Adv kp h1 h2):RQ ow h h2 kp T i2 st2 bv vs p:=by
 have hs:=x.size
 have hlt:=x.lt
 exact ⟨(a.get _ (by omega) (by omega)).trans x.res,(a.get _ (by omega) (by omega)).trans x.many,(a.get _ (by omega) (by omega)).trans x.out,Nat.le_trans hs a.size,S2,⟨Nat.le_trans x.K.size a.size,fun k hk=>(a.get k (by omega) (by omega)).trans (x.K.get k hk)⟩,x.hb,hlt⟩
theorem RQ.blk {h2:AH} {i2:Nat} {st2:LS} {bv2:Value} (x:RQ ow h h1 kp T i st bv vs p) (S2:RSg ow h2 kp T i2 st2 bv2 vs 0 0 0) (a:Adv kp h1 h2) (hb:∀ k,blkOf bv2=some k→h1.size ≤ k):RQ ow h h2 kp T i2 st2 bv2 vs p:=by
 have hs:=x.size
 have hlt:=x.lt
 exact ⟨(a.get _ (by omega) (by omega)).trans x.res,(a.get _ (by omega) (by omega)).trans x.many,(a.get _ (by omega) (by omega)).trans x.out,Nat.le_trans hs a.size,S2,⟨Nat.le_trans x.K.size a.size,fun k hk=>(a.get k (by omega) (by omega)).trans (x.K.get k hk)⟩,fun k hk=>Nat.le_trans hs (hb k hk),hlt⟩
theorem RQ.set {p':Lang.Prog} (x:RQ ow h h1 kp T i st bv vs p):RQ ow h (h1.put (kp + 2) (some (.cells (celP p').toArray 34 (0,0),none))) kp T i st bv vs p':=by
 have hs:=x.size
 have hlt:=x.lt
 exact ⟨(get_put_ne (by omega)).trans x.res,(get_put_ne (by omega)).trans x.many,get_put_eq rfl,by rw [sz_put];exact hs,x.S.off _ (by omega) (fun k hk=>by have:=x.hb k hk;omega),⟨by rw [sz_put];exact x.K.size,fun k hk=>(get_put_ne (by omega)).trans (x.K.get k hk)⟩,x.hb,hlt⟩
theorem RQ.push (x:RQ ow h h1 kp T i st bv vs p) (o:Obj):RQ ow h (h1.push o none) kp T i st bv vs p:=x.adv (x.S.push _ _) (.push (.refl _ _) _ _)
theorem RQ.next {Q:Res→AH→Prop} (x:RQ ow h h1 kp T i st bv vs p) (hne:∀ ts,st=.ok ts→ts.tail ≠ []) (hq:∀ h2 i2,RQ ow h h2 kp T i2 (tailS st) bv vs p→Q (.ret (.tuple #[])) h2):HC Tryd.prog 16 [.pointer (some ⟨kp,0,none⟩)].toArray h1 Q :=
 rnext_ok x.S hne fun h2 i2 S2 a2=>hq h2 i2 (x.adv S2 a2)
theorem RQ.want {Q:Res→AH→Prop} (x:RQ ow h h1 kp T i st bv vs p) (k:Nat) (y:ByteArray) (hk:k ≠ 0) (hq:∀ h2 i2,RQ ow h h2 kp T i2 (wantS k y st) bv vs p→Q (.ret (.tuple #[])) h2):HC Tryd.prog 13 [.pointer (some ⟨kp,0,none⟩),.int .i64 (k:Int),.string y].toArray h1 Q :=
 rwant_ok x.S k y hk fun h2 i2 S2 a2=>hq h2 i2 (x.adv S2 a2)
theorem RQ.expr {Q:Res→AH→Prop} (x:RQ ow h h1 kp T i st bv vs p) (hv:VsNZ vs) (hl:vs.length ≤ 1048576) (w:Nat) (hw:w < 256)
  (hq:∀ h2 i2 e k,RQ ow h h2 kp T i2 (tailE (exprS (expr0 vs) w st)) bv vs p→(∀ y r,exprS (expr0 vs) w st=.ok (y,r)→y=(e,k))→Q (.ret (.tuple #[encE e,.int .u8 (k:Nat)])) h2):HC Tryd.prog 17 [.pointer (some ⟨kp,0,none⟩),.int .u8 (w:Nat)].toArray h1 Q :=
 HC.mono (rexpr_at hv hl x.S hw) fun r h2 hp=>by
  obtain ⟨a2,i2,e,k,rfl,S2,hy⟩:=hp
  exact hq h2 i2 e k (x.adv S2 a2) hy
def block0S (vs:List Var):LS→BR
 | .ok ts=>block0 vs ts
 | .error f=>.error f
theorem RQ.block {mv:Value} {more:List Var} {Q:Res→AH→Prop} (x:RQ true h h1 kp T i st bv [] p) (hm:VsNZ more) (hsz:more.length + lenS st ≤ 100000) (hsrc:∀ h',Adv kp h1 h'→Src h' 2 mv (more.map encV))
  (hq:∀ h2 i2 bv2 ss,RQ true h h2 kp T i2 ((block0S more st).map (·.2)) bv2 [] p→(∀ y r,block0S more st=.ok (y,r)→y=ss)→Q (.ret (slV (encSs ss))) h2) :
  HC Tryd.prog 14 [.pointer (some ⟨kp,0,none⟩),.int .i64 0,mv].toArray h1 Q :=
 HC.mono (rblk_of (lenS st) (b:=0) (l:=0) (by omega) (by omega) false st i bv mv [] more h1 (Nat.le_refl _) (fun v hv=>nomatch hv) hm (by simpa using hsz) x.S hsrc) fun r h2 hp=>by
  have e:blockS (blockG (stmtsF (lenS st)) 0 0) false ([]++more) st=block0S more st:=by cases st <;> rfl
  rw [e] at hp
  obtain ⟨a2,i2,bv2,ss,rfl,S2,hb,hy⟩:=hp
  exact hq h2 i2 bv2 ss (x.blk S2 a2 hb) hy
theorem RQ.set1 {m c r:List Lang.Stmt} {cs ps:Bool} {pt:Lang.Expr} {m':List Lang.Stmt} (X:RQ ow h h1 kp T i st bv vs ⟨m,c,r,cs,ps,pt⟩):stN 1 h1 (.pointer (some ⟨kp + 2,0,none⟩)) (slV (encSs m'))=some (h1.put (kp + 2) (some (.cells (celP ⟨m',c,r,cs,ps,pt⟩).toArray 34 (0,0),none))) :=
 stN_mid (a:=[]) (b:=[slV (encSs m)]) (c:=[slV (encSs c),slV (encSs r),.bool cs,.bool ps]++celE pt) (v:=slV (encSs m')) (by have:=X.out;simpa [celP] using this) rfl rfl (by rw [cells_slV];rfl) (fun z hz=>by rw [cells_slV] at hz;simp at hz;subst hz;exact one_slV _) |>.trans (by simp [celP,cells_slV])
theorem RQ.set2 {m c r:List Lang.Stmt} {cs ps:Bool} {pt:Lang.Expr} {m':List Lang.Stmt} (X:RQ ow h h1 kp T i st bv vs ⟨m,c,r,cs,ps,pt⟩):stN 1 h1 (.pointer (some ⟨kp + 2,1,none⟩)) (slV (encSs m'))=some (h1.put (kp + 2) (some (.cells (celP ⟨m,m',r,cs,ps,pt⟩).toArray 34 (0,0),none))) :=
 stN_mid (a:=[slV (encSs m)]) (b:=[slV (encSs c)]) (c:=[slV (encSs r),.bool cs,.bool ps]++celE pt) (v:=slV (encSs m')) (by have:=X.out;simpa [celP] using this) rfl rfl (by rw [cells_slV];rfl) (fun z hz=>by rw [cells_slV] at hz;simp at hz;subst hz;exact one_slV _) |>.trans (by simp [celP,cells_slV])
theorem RQ.set3 {m c r:List Lang.Stmt} {cs ps:Bool} {pt:Lang.Expr} {m':List Lang.Stmt} (X:RQ ow h h1 kp T i st bv vs ⟨m,c,r,cs,ps,pt⟩):stN 1 h1 (.pointer (some ⟨kp + 2,2,none⟩)) (slV (encSs m'))=some (h1.put (kp + 2) (some (.cells (celP ⟨m,c,m',cs,ps,pt⟩).toArray 34 (0,0),none))) :=
 stN_mid (a:=[slV (encSs m),slV (encSs c)]) (b:=[slV (encSs r)]) (c:=[.bool cs,.bool ps]++celE pt) (v:=slV (encSs m')) (by have:=X.out;simpa [celP] using this) rfl rfl (by rw [cells_slV];rfl) (fun z hz=>by rw [cells_slV] at hz;simp at hz;subst hz;exact one_slV _) |>.trans (by simp [celP,cells_slV])
theorem RQ.set4 {m c r:List Lang.Stmt} {cs ps:Bool} {pt:Lang.Expr} (X:RQ ow h h1 kp T i st bv vs ⟨m,c,r,cs,ps,pt⟩):stN 1 h1 (.pointer (some ⟨kp + 2,3,none⟩)) (.bool true)=some (h1.put (kp + 2) (some (.cells (celP ⟨m,c,r,true,ps,pt⟩).toArray 34 (0,0),none))) :=
 stN_mid (a:=[slV (encSs m),slV (encSs c),slV (encSs r)]) (b:=[.bool cs]) (c:=[.bool ps]++celE pt) (v:=.bool true) (by have:=X.out;simpa [celP] using this) rfl rfl rfl (fun z hz=>by simp [Value.cells] at hz;subst hz;rfl) |>.trans (by simp [celP,Value.cells])
theorem RQ.set5 {m c r:List Lang.Stmt} {cs ps:Bool} {pt:Lang.Expr} (X:RQ ow h h1 kp T i st bv vs ⟨m,c,r,cs,ps,pt⟩):stN 1 h1 (.pointer (some ⟨kp + 2,4,none⟩)) (.bool true)=some (h1.put (kp + 2) (some (.cells (celP ⟨m,c,r,cs,true,pt⟩).toArray 34 (0,0),none))) :=
 stN_mid (a:=[slV (encSs m),slV (encSs c),slV (encSs r),.bool cs]) (b:=[.bool ps]) (c:=celE pt) (v:=.bool true) (by have:=X.out;simpa [celP] using this) rfl rfl rfl (fun z hz=>by simp [Value.cells] at hz;subst hz;rfl) |>.trans (by simp [celP,Value.cells])
theorem RQ.set6 {m c r:List Lang.Stmt} {cs ps:Bool} {pt a':Lang.Expr} (X:RQ ow h h1 kp T i st bv vs ⟨m,c,r,cs,ps,pt⟩):stN 5 h1 (.pointer (some ⟨kp + 2,5,none⟩)) (encE a')=some (h1.put (kp + 2) (some (.cells (celP ⟨m,c,r,cs,ps,a'⟩).toArray 34 (0,0),none))) :=
 stN_mid (a:=[slV (encSs m),slV (encSs c),slV (encSs r),.bool cs,.bool ps]) (b:=celE pt) (c:=[]) (v:=encE a') (by have:=X.out;simpa [celP] using this) rfl (celE_len pt) (by rw [encE_cells];simp [celE_len]) (fun z hz=>celE_one a' z (by rw [encE_cells] at hz;simpa using hz)) |>.trans (by simp [celP,encE_cells])
def finS (p:Lang.Prog):LS→R Lang.Prog
 | .ok _=>.ok p
 | .error f=>.error f
theorem rprog_25 (x:RQ ow h h1 kp T i st bv vs p):K6_25 (.pointer (some ⟨h.size,0,none⟩)) (.pointer (some ⟨kp,0,none⟩)) (.pointer (some ⟨kp + 2,0,none⟩)) h1 (RParseP h (finS p st)):=by
 refine X6_25_ok ?_
 unfold X6_25
 have hlt:=x.lt
 have hs:=x.size
 have K:=x.K
 cases st with
 | error f =>
  obtain ⟨hr,e⟩:=x.S.dead
  have en:((f.1:Int) != 0)=true:=by simpa using e
  generalize hs10:stN 10=s10
  generalize hl10:ldN 10=l10
  simp (disch:=(first | exact dz | fail)) only [hr,en,SXB,SX,reduceIte,Int.reduceLT,Int.reduceLE,Int.reduceToNat,Int.reduceBEq,Int.reduceBNe,Nat.reduceAdd,Nat.reduceMul,Nat.reduceSub,Nat.reduceLeDiff]
  subst hs10 hl10
  refine bq_of (stN_full x.res (by rfl) rfl (fun z hz=>by simp [Value.cells] at hz;rcases hz with rfl | rfl | rfl | rfl | rfl | rfl <;> rfl)) ?_
  have hr2:=(get_put_ne (h:=h1) (k:=h.size) (j:=kp) (v:=some (.cells (Value.agg #[.slice none 0 0,.slice none 0 0,.slice none 0 0,.bool false,.bool false,.string ⟨#[]⟩,.int .i64 0,.int .i64 0,.string ⟨#[]⟩,.slice none 0 0]).cells 34 (0,0),none)) (by omega)).trans hr
  refine ⟨⟨bq_of (x:=.int .i64 f.2) (by rw [hr2];rfl) rfl,bq_of (x:=.int .i64 f.1) (by rw [hr2];rfl) rfl⟩,?_⟩
  rw [ldN_full (n:=10) (get_put_eq rfl) rfl]
  simp (disch:=(first | exact dz | fail)) only [SXB,SX,reduceIte,Int.reduceLT,Int.reduceLE,Int.reduceToNat,Int.reduceBEq,Int.reduceBNe,Nat.reduceAdd,Nat.reduceMul,Nat.reduceSub,Nat.reduceLeDiff]
  refine ⟨?_,rfl,x.S.at_⟩
  (repeat (first | exact Kp.refl _ _ | assumption | refine Kp.push ?_ _ _ (by first | omega | (simp only [sz_push,sz_put];omega)) | refine Kp.put ?_ _ _ (by first | omega | (simp only [sz_push,sz_put];omega))))
 | ok ts =>
  have hr:=x.S.live
  have en:((0:Int) != 0)=false:=rfl
  generalize hs10:stN 10=s10
  generalize hl10:ldN 10=l10
  simp (disch:=(first | exact dz | fail)) only [hr,en,SXB,SX,reduceIte,Int.reduceLT,Int.reduceLE,Int.reduceToNat,Int.reduceBEq,Int.reduceBNe,Nat.reduceAdd,Nat.reduceMul,Nat.reduceSub,Nat.reduceLeDiff]
  subst hs10 hl10
  refine bq_of (ldN_full x.out (by simp [celP_len])) ?_
  refine bq_of (stN_full x.res (by rfl) (by simp [Value.cells,celP_len]) (fun z hz=>celP_one p z (by simpa [Value.cells] using hz))) ?_
  rw [ldN_full (n:=10) (get_put_eq rfl) (by simp [Value.cells,celP_len])]
  simp (disch:=(first | exact dz | fail)) only [SXB,SX,reduceIte,Int.reduceLT,Int.reduceLE,Int.reduceToNat,Int.reduceBEq,Int.reduceBNe,Nat.reduceAdd,Nat.reduceMul,Nat.reduceSub,Nat.reduceLeDiff]
  refine ⟨?_,rfl⟩
  (repeat (first | exact Kp.refl _ _ | assumption | refine Kp.push ?_ _ _ (by first | omega | (simp only [sz_push,sz_put];omega)) | refine Kp.put ?_ _ _ (by first | omega | (simp only [sz_push,sz_put];omega))))
end
end Go.Proofs.YtnaenhkldanjbaaDoor.L
end
section
namespace Go.Proofs.YtnaenhkldanjbaaDoor.L
open Go.Ab Go.Lang Go.Proofs.YtnaenhkldanjbaaDoor.X
set_option maxRecDepth 100000
def endS (p:Lang.Prog):LS→R Lang.Prog
 | .ok ts=>match Lang.want 0 empty ts with
  | .error f=>.error f
  | .ok _=>.ok p
 | .error f=>.error f
def reduceS (p:Lang.Prog):LS→R Lang.Prog
 | .ok ts=>reduceF p ts
 | .error f=>.error f
abbrev partV:List Var:=[(wKey,kT),(wParts,kN)]
theorem reduce_no {p:Lang.Prog} {st:LS} {b3:BR} {ss:List Lang.Stmt} (h3:block0S manyV (wantS 1 wReduce st)=b3) (hi:isS (b3.map (·.2)) 1 wPart=false) (hy:∀ y r,b3=.ok (y,r)→y=ss):reduceS p st=endS { p with reduce:=ss } (b3.map (·.2)):=by
 cases st with
 | error f=>subst h3;rfl
 | ok ts =>
  show reduceF p ts=_
  unfold reduceF
  have e1:wantS 1 wReduce (.ok ts)=Lang.want 1 wReduce ts:=rfl
  rw [e1] at h3
  cases hw:Lang.want 1 wReduce ts with
  | error f=>rw [hw] at h3;subst h3;rfl
  | ok t2 =>
   rw [hw] at h3
   have e2:block0S manyV (.ok t2)=block0 manyV t2:=rfl
   rw [e2] at h3
   simp only [h3]
   cases b3 with
   | error f=>rfl
   | ok z =>
    obtain ⟨l,t3⟩:=z
    obtain rfl:=hy _ _ rfl
    have hi:isT t3 1 wPart=false:=hi
    simp only [partF,partE,hi,Bool.false_eq_true,if_false]
    rfl
theorem reduce_yes {p:Lang.Prog} {st:LS} {b3:BR} {ss:List Lang.Stmt} {x1:ER} {e:Lang.Expr} {k:Nat} (h3:block0S manyV (wantS 1 wReduce st)=b3) (hi:isS (b3.map (·.2)) 1 wPart=true) (hy:∀ y r,b3=.ok (y,r)→y=ss)
  (hx:exprS (expr0 partV) kN (tailS (b3.map (·.2)))=x1) (hx2:∀ y r,x1=.ok (y,r)→y=(e,k)):reduceS p st=endS { p with reduce:=ss,parts:=true,part:=e } (wantS 4 mSemi (tailE x1)):=by
 cases st with
 | error f=>subst h3;cases hi
 | ok ts =>
  show reduceF p ts=_
  unfold reduceF
  have e1:wantS 1 wReduce (.ok ts)=Lang.want 1 wReduce ts:=rfl
  rw [e1] at h3
  cases hw:Lang.want 1 wReduce ts with
  | error f=>rw [hw] at h3;subst h3;cases hi
  | ok t2 =>
   rw [hw] at h3
   have e2:block0S manyV (.ok t2)=block0 manyV t2:=rfl
   rw [e2] at h3
   simp only [h3]
   cases b3 with
   | error f=>cases hi
   | ok z =>
    obtain ⟨l,t3⟩:=z
    obtain rfl:=hy _ _ rfl
    have hi:isT t3 1 wPart=true:=hi
    have e3:tailS ((Except.ok (l,t3):BR).map (·.2))=.ok t3.tail:=rfl
    rw [e3] at hx
    simp only [partF,partE,hi,if_true]
    rw [ofK_W kN0,show exprW kN (headAt t3.tail) (expr0 partV t3.tail)=x1 from hx]
    cases x1 with
    | error f=>rfl
    | ok y =>
     obtain ⟨y,r⟩:=y
     have:=hx2 _ _ rfl
     subst this
     simp only [Except.map]
     have e4:wantS 4 mSemi (Except.ok r)=Lang.want 4 mSemi r:=rfl
     rw [e4]
     cases Lang.want 4 mSemi r <;> rfl
theorem prog_no {ts:List Tok} {b1:BR} {ss:List Lang.Stmt} (h1:block0S [(wKey,kT),(wValue,kT)] (wantS 1 wMap (.ok ts))=b1) (hi:isS (b1.map (·.2)) 1 wCombine=false) (hy:∀ y r,b1=.ok (y,r)→y=ss):programF ts=reduceS ⟨ss,[],[],false,false,.zero⟩ (b1.map (·.2)):=by
 unfold programF
 have e1:wantS 1 wMap (.ok ts)=Lang.want 1 wMap ts:=rfl
 rw [e1] at h1
 cases hw:Lang.want 1 wMap ts with
 | error f=>rw [hw] at h1;subst h1;rfl
 | ok t2 =>
  rw [hw] at h1
  have e2:block0S [(wKey,kT),(wValue,kT)] (.ok t2)=block0 [(wKey,kT),(wValue,kT)] t2:=rfl
  rw [e2] at h1
  simp only [h1]
  cases b1 with
  | error f=>rfl
  | ok z =>
   obtain ⟨l,t3⟩:=z
   obtain rfl:=hy _ _ rfl
   have hi:isT t3 1 wCombine=false:=hi
   simp only [hi,Bool.false_eq_true,if_false]
   rfl
theorem prog_yes {ts:List Tok} {b1 b2:BR} {ss ss2:List Lang.Stmt} (h1:block0S [(wKey,kT),(wValue,kT)] (wantS 1 wMap (.ok ts))=b1) (hi:isS (b1.map (·.2)) 1 wCombine=true) (hy:∀ y r,b1=.ok (y,r)→y=ss)
  (h2:block0S manyV (tailS (b1.map (·.2)))=b2) (hy2:∀ y r,b2=.ok (y,r)→y=ss2):programF ts=reduceS ⟨ss,ss2,[],true,false,.zero⟩ (b2.map (·.2)):=by
 unfold programF
 have e1:wantS 1 wMap (.ok ts)=Lang.want 1 wMap ts:=rfl
 rw [e1] at h1
 cases hw:Lang.want 1 wMap ts with
 | error f=>rw [hw] at h1;subst h1;cases hi
 | ok t2 =>
  rw [hw] at h1
  have e2:block0S [(wKey,kT),(wValue,kT)] (.ok t2)=block0 [(wKey,kT),(wValue,kT)] t2:=rfl
  rw [e2] at h1
  simp only [h1]
  cases b1 with
  | error f=>cases hi
  | ok z =>
   obtain ⟨l,t3⟩:=z
   obtain rfl:=hy _ _ rfl
   have hi:isT t3 1 wCombine=true:=hi
   have e3:block0S manyV (tailS ((Except.ok (l,t3):BR).map (·.2)))=block0 manyV t3.tail:=rfl
   rw [e3] at h2
   simp only [hi,if_true,h2]
   cases b2 with
   | error f=>rfl
   | ok w =>
    obtain ⟨l2,t4⟩:=w
    obtain rfl:=hy2 _ _ rfl
    rfl
theorem TokOK.end_ {t:Tok} {r:List Tok} (ok:TokOK (t::r)) (h:t.cls=0):t.text=empty:=by
 cases ok with
 | one _ _ ht _=>exact ht
 | cons hg _=>exact absurd h hg.cls
theorem RSg.lens {ow:Bool} {h:AH} {kp i:Nat} {T:List Tok} {st:LS} {bv:Value} {vs:List Var} {b l c:Nat} (S:RSg ow h kp T i st bv vs b l c):lenS st ≤ 5000:=by
 have hl:=S.len
 cases st with
 | error f=>show 0 ≤ 5000;omega
 | ok ts =>
  have hd:T.drop i=ts:=S.at_
  show ts.length ≤ 5000
  rw [← hd,List.length_drop];omega
section
variable {ow:Bool} {h h1:AH} {kp i:Nat} {T:List Tok} {st:LS} {bv:Value} {vs:List Var} {p:Lang.Prog}
theorem rprog_23 {rs:R Lang.Prog} (x:RQ ow h h1 kp T i st bv vs p) (hrs:rs=endS p st):K6_23 (.pointer (some ⟨h.size,0,none⟩)) (.pointer (some ⟨kp,0,none⟩)) (.pointer (some ⟨kp + 2,0,none⟩)) h1 (RParseP h rs):=by
 refine X6_23_ok ?_
 unfold X6_23
 cases st with
 | error f =>
  obtain ⟨hr,e⟩:=x.S.dead
  simp (disch:=(first | exact dz | fail)) only [hr,e,SXB,SX,reduceIte,Int.reduceLT,Int.reduceLE,Int.reduceToNat,Int.reduceBEq,Int.reduceBNe,Nat.reduceAdd,Nat.reduceMul,Nat.reduceSub,Nat.reduceLeDiff]
  have e1:endS p (.error f)=finS p (.error f):=rfl
  rw [hrs,e1]
  exact rprog_25 x
 | ok ts =>
  have hr:=x.S.live
  have e0:((0:Int) == 0)=true:=rfl
  obtain ⟨t,ht⟩:=x.S.tok
  have ok:=x.S.okl
  obtain ⟨r,rfl⟩:∃ r,ts=t::r:=by
   have hd:T.drop i=ts:=x.S.at_
   rw [← hd,List.drop_eq_getElem_cons x.S.ilt]
   rw [List.getElem?_eq_getElem x.S.ilt] at ht
   exact ⟨_,by rw [Option.some.inj ht]⟩
  simp (disch:=(first | exact dz | fail)) only [hr,e0,SXB,SX,reduceIte,Int.reduceLT,Int.reduceLE,Int.reduceToNat,Int.reduceBEq,Int.reduceBNe,Nat.reduceAdd,Nat.reduceMul,Nat.reduceSub,Nat.reduceLeDiff]
  refine HC.exact (tok_ok x.S ht) ?_
  by_cases hc:t.cls=0
  ·have en:((t.cls:Int) != 0)=false:=by simp [hc]
   simp (disch:=(first | exact dz | fail)) only [encT,en,SXB,SX,reduceIte,Int.reduceLT,Int.reduceLE,Int.reduceToNat,Int.reduceBEq,Int.reduceBNe,Nat.reduceAdd,Nat.reduceMul,Nat.reduceSub,Nat.reduceLeDiff]
   have e1:endS p (.ok (t::r))=finS p (.ok (t::r)):=by
    have:isT (t::r) 0 empty=true:=by
     simp only [isT,hc,TokOK.end_ ok hc]
     kernel_rfl
    show (match Lang.want 0 empty (t::r) with | .error f=>Except.error f | .ok _=>.ok p)=.ok p
    unfold Lang.want
    rw [this];rfl
   rw [hrs,e1]
   exact rprog_25 x
  ·have en:((t.cls:Int) != 0)=true:=by simp;omega
   simp (disch:=(first | exact dz | fail)) only [encT,en,SXB,SX,reduceIte,Int.reduceLT,Int.reduceLE,Int.reduceToNat,Int.reduceBEq,Int.reduceBNe,Nat.reduceAdd,Nat.reduceMul,Nat.reduceSub,Nat.reduceLeDiff]
   refine HC.exact (tok_ok x.S ht) ?_
   simp (disch:=(first | exact dz | fail)) only [encT,SXB,SX,reduceIte,Int.reduceLT,Int.reduceLE,Int.reduceToNat,Int.reduceBEq,Int.reduceBNe,Nat.reduceAdd,Nat.reduceMul,Nat.reduceSub,Nat.reduceLeDiff]
   refine rfail_ok x.S 161 t.at_ (by omega) fun h2 S2 a2=>?_
   simp (disch:=(first | exact dz | fail)) only [SXB,SX,reduceIte,Int.reduceLT,Int.reduceLE,Int.reduceToNat,Int.reduceBEq,Int.reduceBNe,Nat.reduceAdd,Nat.reduceMul,Nat.reduceSub,Nat.reduceLeDiff]
   have e1:endS p (.ok (t::r))=finS p (failS 161 t.at_ (.ok (t::r))):=by
    have:isT (t::r) 0 empty=false:=by simp [isT,hc]
    show (match Lang.want 0 empty (t::r) with | .error f=>Except.error f | .ok _=>.ok p)=.error (161,t.at_)
    unfold Lang.want
    rw [this];rfl
   rw [hrs,e1]
   exact rprog_25 (x.adv S2 a2)
end
theorem rprog_15 {h h1:AH} {kp i:Nat} {T:List Tok} {st:LS} {bv:Value} {p:Lang.Prog} {rs:R Lang.Prog} (x:RQ true h h1 kp T i st bv [] p) (hrs:rs=reduceS p st) :
  K6_15 (.pointer (some ⟨h.size,0,none⟩)) (.pointer (some ⟨kp,0,none⟩)) (.slice (some ⟨kp + 1,0,none⟩) 2 2) (.pointer (some ⟨kp + 2,0,none⟩)) h1 (RParseP h rs):=by
 refine X6_15_ok ?_
 unfold X6_15
 obtain ⟨m,c,r,cs,ps,pt⟩:=p
 have hlt:=x.lt
 generalize hs1:stN 1=s1
 generalize hs5:stN 5=s5
 simp (disch:=(first | exact dz | fail)) only [SXB,SX,reduceIte,Int.reduceLT,Int.reduceLE,Int.reduceToNat,Int.reduceBEq,Int.reduceBNe,Nat.reduceAdd,Nat.reduceMul,Nat.reduceSub,Nat.reduceLeDiff]
 subst hs1 hs5
 refine x.want 1 wReduce (by omega) fun h2 i2 x2=>?_
 simp only [RK,Nat.reduceAdd]
 have nz:VsNZ manyV:=fun v hv=>by
  simp [manyV] at hv
  rcases hv with rfl | rfl <;> decide
 have nz2:VsNZ partV:=fun v hv=>by
  simp at hv
  rcases hv with rfl | rfl <;> decide
 have ll:=x2.S.lens
 have hz2:=x2.size
 refine x2.block (more:=manyV) nz (by simp [manyV];omega) (fun h' A=>?_) fun h3 i3 bv3 ss x3 ys=>?_
 ·refine Src.row (k:=kp + 1) (off:=0) (m:=manyV.map encV) ((A.get _ (by omega) (by omega)).trans x2.many) (fun v hv=>encVs_size _ v hv) (by simp [manyV]) ?_
  simp [manyV,encV,flatC,Value.cells,kT,kL]
 simp only [RK,Nat.reduceAdd]
 refine bq_of x3.set3 ?_
 have x4:=x3.set (p':=⟨m,c,ss,cs,ps,pt⟩)
 generalize hb3:block0S manyV (wantS 1 wReduce st)=b3 at x3 x4 ys
 refine HC.exact (risT x4.S 1 wPart) ?_
 cases he:isS (b3.map (·.2)) 1 wPart with
 | false =>
  simp (disch:=(first | exact dz | fail)) only [SXB,SX,reduceIte,Int.reduceLT,Int.reduceLE,Int.reduceToNat,Int.reduceBEq,Int.reduceBNe,Nat.reduceAdd,Nat.reduceMul,Nat.reduceSub,Nat.reduceLeDiff]
  exact rprog_23 x4 (by rw [hrs];exact reduce_no hb3 he ys)
 | true =>
  generalize hs1:stN 1=s1
  generalize hs5:stN 5=s5
  simp (disch:=(first | exact dz | fail)) only [SXB,SX,reduceIte,Int.reduceLT,Int.reduceLE,Int.reduceToNat,Int.reduceBEq,Int.reduceBNe,Nat.reduceAdd,Nat.reduceMul,Nat.reduceSub,Nat.reduceLeDiff]
  subst hs1 hs5
  have hne:∀ ts,b3.map (·.2)=.ok ts→ts.tail ≠ []:=fun ts e=>by
   have h1:isS (.ok ts) 1 wPart=true:=by rw [← e];exact he
   exact (isT_shr h1 (by omega) (RS.oks x4.S ts e)).1.ne
  refine x4.next hne fun h5 i5 x5=>?_
  simp only [RK,Nat.reduceAdd]
  refine bq_of x5.set5 ?_
  have x6:=x5.set (p':=⟨m,c,ss,cs,true,pt⟩)
  have hz6:=x6.size
  have hk6:=x6.S.lt
  have hr6:=x6.S.any
  generalize h5.put (kp + 2) (some (.cells (celP ⟨m,c,ss,cs,true,pt⟩).toArray 34 (0,0),none))=h6 at x6 hz6 hk6 hr6 ⊢
  refine bq_of (x:=encV (wKey,kT)) rfl ?_
  refine bq_of (x:=encV (wParts,kN)) rfl ?_
  refine bq_of (x:=(Value.slice (some ⟨h6.size,0,none⟩) 2 2,h6.push (.cells #[.string wKey,.int .u8 116,.string wParts,.int .u8 110] 65 (0,0)) none)) rfl ?_
  dsimp only
  obtain ⟨er,her⟩:∃ er,er=erOf (tailS ((b3.map (·.2):LS))):=⟨_,rfl⟩
  rw [← her] at hr6
  have hr7:=(get_push_ne (h:=h6) (o:=.cells #[.string wKey,.int .u8 116,.string wParts,.int .u8 110] 65 (0,0)) (s:=none) (j:=kp) (by omega)).trans hr6
  refine bq_of (stN_mid (a:=[VSl (T.map encT),.int .i64 i5]) (b:=[bv3]) (c:=[.int .i64 (0:Nat),.int .i64 (0:Nat),.int .i64 (0:Nat),.int .i64 er.1,.int .i64 er.2]) (v:=.slice (some ⟨h6.size,0,none⟩) 2 2) hr7 rfl rfl rfl (fun z hz=>by simp [Value.cells] at hz;subst hz;rfl)) ?_
  have x7:RQ false h ((h6.push (.cells #[.string wKey,.int .u8 116,.string wParts,.int .u8 110] 65 (0,0)) none).put kp (rrow T i5 (.slice (some ⟨h6.size,0,none⟩) 2 2) 0 0 0 er)) kp T i5 (tailS (b3.map (·.2))) (.slice (some ⟨h6.size,0,none⟩) 2 2) partV ⟨m,c,ss,cs,true,pt⟩:=by
   have a:Adv kp h6 ((h6.push (.cells #[.string wKey,.int .u8 116,.string wParts,.int .u8 110] 65 (0,0)) none).put kp (rrow T i5 (.slice (some ⟨h6.size,0,none⟩) 2 2) 0 0 0 er)):=by (repeat (first | exact Adv.refl _ _ | assumption | refine Adv.push ?_ _ _ | refine Adv.put ?_ _ _ (by first | exact .inl rfl | (right;first | omega | (simp only [sz_push,sz_put];omega)))))
   refine ⟨(a.get _ (by omega) (by omega)).trans x6.res,(a.get _ (by omega) (by omega)).trans x6.many,(a.get _ (by omega) (by omega)).trans x6.out,Nat.le_trans hz6 a.size,?_,⟨Nat.le_trans x6.K.size a.size,fun k hk=>(a.get k (by have:=x6.K.size;omega) (by omega)).trans (x6.K.get k hk)⟩,fun k q=>?_,hlt⟩
   ·refine ⟨by rw [← her];exact get_put_eq rfl,?_,fun q=>by have:h6.size=kp:=Option.some.inj q;omega,by simp;omega,fun k q=>?_,x6.S.ilt,x6.S.ok,x6.S.len,x6.S.at_⟩
    ·exact Lit.mk (l:=[encV (wKey,kT),encV (wParts,kN)]) ((get_put_ne (by omega)).trans (get_push_eq rfl)) (by simp [encV,flatC,Value.cells,kT,kN,wKey,wParts])
    ·have:h6.size=k:=Option.some.inj q
     simp;omega
   ·have:h6.size=k:=Option.some.inj q
    omega
  change HC _ _ _ ((h6.push (.cells #[.string wKey,.int .u8 116,.string wParts,.int .u8 110] 65 (0,0)) none).put kp (rrow T i5 (.slice (some ⟨h6.size,0,none⟩) 2 2) 0 0 0 er)) _
  refine x7.expr nz2 (by simp) 110 (by decide) fun h8 i8 e k x8 ya=>?_
  simp only [resK_ret]
  refine bq_of (x:=encE e) rfl ?_
  refine bq_of (x:=.int .u8 (k:Nat)) rfl ?_
  refine bq_of x8.set6 ?_
  have x9:=x8.set (p':=⟨m,c,ss,cs,true,e⟩)
  refine x9.want 4 mSemi (by omega) fun h10 i10 x10=>?_
  simp only [RK,Nat.reduceAdd]
  exact rprog_23 x10 (by rw [hrs];exact reduce_yes hb3 he ys rfl ya)
end Go.Proofs.YtnaenhkldanjbaaDoor.L
end

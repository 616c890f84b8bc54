import Derived.Lib.IndexBytes
import Derived.Test.YtibigfkeaemanaaGreatDoorZ33
set_option linter.unusedVariables false
set_option linter.unusedSimpArgs false
section
namespace Go.Proofs.YtibigfkeaemanaaGreatDoor.L
open Go.Ab Go.Lang Go.Proofs.YtibigfkeaemanaaGreatDoor.X
set_option maxRecDepth 100000
mutual
/-- what a statement keeps to -/
def okS:Lang.Stmt→Bool
 | .mk _ _ a b body els=>okE a && okE b && okB body && okB els
def okB:List Lang.Stmt→Bool
 | []=>true
 | s::l=>okS s && okB l
end
def byOne:Lang.Expr→Bool
 | .mk op _ _ text _=>eqT op o_string && decide (text.size=1)
mutual
/-- what loops go over is cut at single letters -/
def oneS:Lang.Stmt→Bool
 | .mk op _ _ b body els=>(!eqT op o_each || byOne b) && oneB body && oneB els
def oneB:List Lang.Stmt→Bool
 | []=>true
 | s::l=>oneS s && oneB l
end
mutual
/-- how much may be bound -/
def needS:Lang.Stmt→Nat
 | .mk _ _ _ _ body els=>1 + needB body + needB els
def needB:List Lang.Stmt→Nat
 | []=>0
 | s::l=>needS s + needB l
end
structure LoE (ke:Nat) (t:Tri):Prop where
 ke:10 ≤ ke
 t:∀ k,t.has k→10 ≤ k
theorem Tab.advE {h h':AH} {ke:Nat} {t:Tri} (T:Tab h) (A:AdvE ke t h h') (L:LoE ke t):Tab h':=by
 obtain ⟨⟨e,fz,s,h1⟩,⟨m,e2,fz2,s2,h2⟩,h3⟩:=T
 have hk:=L.ke
 have g:∀ k,k < 10→h'.get k=h.get k:=fun k hk'=>A.get k (by omega) (by omega) fun e=>by have:=L.t k e;omega
 exact ⟨⟨e,fz,s,(g _ (by omega)).trans h1⟩,⟨m,e2,fz2,s2,(g _ (by omega)).trans h2⟩,Nat.le_trans h3 A.size⟩
theorem LoE.mv {h:AH} {ke:Nat} {t t':Tri} (L:LoE ke t) (M:Mv h t t') (T:Tab h):LoE ke t':=⟨L.ke,fun k hk=>by
 rcases M k hk with h | h
 ·exact L.t k h
 ·exact Nat.le_trans T.size h⟩
def StmtP (M ke:Nat) (s:Lang.Stmt):Prop:=∀ (h:AH) (t:Tri) (e:Env) (o:Lang.Out),EnvS h ke t e o→(∀ p ∈ e,VOK M p.2)→e.length + needS s ≤ 999999→Tab h→LoE ke t →
 HC Tryz.prog 50 [.pointer (some ⟨ke,0,none⟩),encS s].toArray h (BP ke t (stmtV itoaB s e o).1 h (· = (stmtV itoaB s e o).2))
def BlockP (M ke:Nat) (l:List Lang.Stmt):Prop:=∀ (h:AH) (t:Tri) (e:Env) (o:Lang.Out),EnvS h ke t e o→(∀ p ∈ e,VOK M p.2)→e.length + needB l ≤ 999999→Tab h→LoE ke t →
 HC Tryz.prog 33 [.pointer (some ⟨ke,0,none⟩),slV (encSs l)].toArray h (BP ke t e h (· = blockV itoaB l e o))
theorem stmt_ext {M:Nat} (hM:4096 ≤ M) (s:Lang.Stmt) (hs:okS s=true) (e:Env) (o:Lang.Out) (he:∀ p ∈ e,VOK M p.2):∃ ex,(stmtV itoaB s e o).1=e++ex∧ex.length ≤ 1∧∀ p ∈ (stmtV itoaB s e o).1,VOK M p.2:=by
 obtain ⟨op,name,a,b,body,els⟩:=s
 simp only [okS,Bool.and_eq_true] at hs
 have triv:∃ ex,e=e++ex∧ex.length ≤ 1∧∀ p ∈ e,VOK M p.2:=⟨[],by simp,by simp,he⟩
 unfold stmtV
 simp only
 cases eqT op o_emit with
 | true=>exact triv
 | false =>
 cases eqT op o_let with
 | true =>
  refine ⟨[(name,exprV itoaB e a)],rfl,Nat.le_refl _,fun p hp=>?_⟩
  rcases List.mem_append.1 hp with h | h
  ·exact he p h
  ·rw [List.mem_singleton.1 h];exact expr_vok hM he a hs.1.1.1
 | false =>
 cases eqT op o_if with
 | true=>exact triv
 | false =>
 cases eqT op o_each with
 | true=>exact triv
 | false =>
 cases eqT op o_for with
 | true=>exact triv
 | false=>exact triv
theorem need_pos (s:Lang.Stmt):1 ≤ needS s:=by
 obtain ⟨op,name,a,b,body,els⟩:=s
 unfold needS;omega
theorem evblock_loop {M:Nat} (hM:4096 ≤ M) {h:AH} {ke:Nat} {t:Tri} {e:Env} (T:Tab h) (L:LoE ke t) {l:List Lang.Stmt} (hok:okB l=true) (HS:∀ s ∈ l,StmtP M ke s) (hll:l.length ≤ 999999) {fin:Lang.Out} (hlt:ke < h.size) :
  ∀ (r:List Lang.Stmt) (i:Nat) (h1:AH) (t1:Tri) (e1:Env) (o1:Lang.Out),l.drop i=r→i ≤ l.length→okB r=true→(∃ ex,e1=e++ex)→EnvS h1 ke t1 e1 o1→(∀ p ∈ e1,VOK M p.2)→e1.length + needB r ≤ 999999→AdvE ke t h h1→Mv h t t1→blockV itoaB r e1 o1=fin →
  H33_2 (.pointer (some ⟨ke,0,none⟩)) (.int .i64 e.length) (slV (encSs l)) (.int .i64 l.length) (.int .i64 i) h1 (BP ke t e h (· = fin)):=by
 intro r
 induction r with
 | nil =>
  intro i h1 t1 e1 o1 hd hi hokr ⟨ex,hex⟩ S he hn A Mt hfin
  have:=drop_nil hd
  refine X33_2_ok ?_
  unfold X33_2
  have en:¬ ((i:Int) < l.length):=by omega
  subst hex
  obtain ⟨c1,c2,c3,c4,c5⟩:=S.cut
  have c2':=c2 h1 S
  have hr1:=S.row
  have hn:∃ a n c,cutS t1.n e.length=.slice a n c:=by obtain ⟨a,n,c,hh⟩:=S.names.isSl;rw [hh];exact ⟨_,_,_,rfl⟩
  have hv:∃ a n c,cutS t1.v e.length=.slice a n c:=by
   obtain ⟨vs,B,_⟩:=S.vals
   obtain ⟨a,n,c,hh⟩:=B.isSl;rw [hh];exact ⟨_,_,_,rfl⟩
  obtain ⟨x1,x2,x3,hn⟩:=hn
  obtain ⟨y1,y2,y3,hv⟩:=hv
  rw [hn] at c1 c4 c5
  rw [hv] at c2' c3 c4 c5
  simp (disch:=first|exact dz|fail) only [en,hr1,c1,c2',c3,SXB,SX,simprocAttr]
  refine ⟨rfl,_,o1,c4 _ (get_put_eq rfl) (fun k hk=>by rw [get_put_ne hk,get_put_ne hk]) (by simp),((A.put _).put _),fun k hk=>Mt k (c5 k hk),?_⟩
  unfold blockV at hfin
  exact hfin
 | cons s r ih =>
  intro i h1 t1 e1 o1 hd hi hokr hex S he hn A Mt hfin
  obtain ⟨h1',h2',h3'⟩:=drop_cons hd
  refine X33_2_ok ?_
  unfold X33_2
  have en:(i:Int) < l.length:=by omega
  have hx:=HS s (List.mem_of_getElem? h1')
  simp only [okB,Bool.and_eq_true] at hokr
  have hnd:=need_pos s
  have hnb:needB (s::r)=needS s + needB r:=by rw [needB]
  have eia:ia 14 (slV (encSs l)) (.int .i64 (i:Int))=some (FPv (encS s).cells):=by
   rw [(Sl.of _).ia,if_pos (by omega)]
   have:(encSs l)[(i:Int).toNat]?=some (encS s):=by rw [Int.toNat_natCast,encSs_eq,List.getElem?_map,h1'];rfl
   rw [this,encS_cells]
   simp [celS_len,encS_cells]
  have eld:ldN 14 h1 (FPv (encS s).cells)=some (encS s):=by
   rw [ldN_fp,encS_cells,if_pos (by simp [celS_len])]
   rw [encS_eq]
   congr 2
   have:=celS_len s
   simp [List.extract_eq_take_drop]
   exact List.take_of_length_le (by omega)
  have hsz:(encS s).cells.size=14:=by rw [encS_cells];simp [celS_len]
  refine bq_of (x:=.bool true) (by simp (disch:=first|exact dz|fail) only [en,SXB,SX,simprocAttr]) ?_
  rw [condP_true]
  refine bq_of eia ?_
  refine bq_of eld ?_
  simp only [new1,new2]
  refine bq_of (stN_full (get_push_eq rfl) rfl hsz (fun z hz=>by rw [encS_cells] at hz;exact celS_one s z (by simpa using hz))) ?_
  refine bq_of (x:=encS s) (by rw [ldN_full (n:=14) (get_put_eq rfl) hsz];rw [encS_eq];rfl) ?_
  refine HC.mono (hx _ t1 e1 o1 (S.kp ?_) he (by omega) ?_ (L.mv Mt T)) fun rr h3 hp=>?_
  ·(repeat (first | exact Kp.refl _ _ | assumption | refine Kp.push ?_ _ _ (by first | omega | (simp only [sz_push,sz_put];omega)) | refine Kp.put ?_ _ _ (by first | omega | (simp only [sz_push,sz_put];omega))))
  ·exact T.advE (A.trans (AdvE.of_kp (t:=t1) (by (repeat (first | exact Kp.refl _ _ | assumption | refine Kp.push ?_ _ _ (by first | omega | (simp only [sz_push,sz_put];omega)) | refine Kp.put ?_ _ _ (by first | omega | (simp only [sz_push,sz_put];omega)))))) Mt) L
  obtain ⟨rfl,t3,o3,S3,A3,M3,hR⟩:=hp
  simp only [resK_ret]
  obtain ⟨ex,hex1,hex2,hex3⟩:=stmt_ext hM s hokr.1 e1 o1 he
  simp (disch:=first|exact dz|fail) only [SXB,SX,simprocAttr]
  rw [hex1] at S3 hex3
  subst hR
  have A3':AdvE ke t1 h1 h3:=(AdvE.of_kp (t:=t1) (by (repeat (first | exact Kp.refl _ _ | assumption | refine Kp.push ?_ _ _ (by first | omega | (simp only [sz_push,sz_put];omega)) | refine Kp.put ?_ _ _ (by first | omega | (simp only [sz_push,sz_put];omega)))))).trans A3 (.refl _ _)
  have M3':Mv h1 t1 t3:=M3.less (by simp)
  refine ih (i + 1) h3 t3 (e1++ex) _ h2' (by omega) hokr.2 ?_ S3 hex3 (by rw [List.length_append];omega) (A.trans A3' Mt) (Mt.trans M3' A.size) ?_
  ·obtain ⟨ex0,hex0⟩:=hex
   exact ⟨ex0++ex,by rw [hex0];simp⟩
  ·unfold blockV at hfin
   rw [hex1] at hfin
   exact hfin
theorem evblock_ok {M:Nat} (hM:4096 ≤ M) {ke:Nat} {l:List Lang.Stmt} (hok:okB l=true) (HS:∀ s ∈ l,StmtP M ke s):BlockP M ke l:=by
 intro h t e o S he hn T L
 refine X33_ok ?_
 unfold X33
 have hr:=S.row
 have el:=S.names.len
 have enl:(nmL e).length=e.length:=by unfold nmL;simp
 rw [enl] at el
 have ell:lenL (slV (encSs l))=some (.int .i64 (l.length:Nat)):=by rw [lenL_slV,encSs_eq,List.length_map]
 simp (disch:=first|exact dz|fail) only [hr,el,ell,SXB,SX,simprocAttr]
 have hneed:∀ l:List Lang.Stmt,l.length ≤ needB l:=by
  intro l
  induction l with
  | nil=>simp
  | cons s l ih =>
   have:=need_pos s
   rw [needB,List.length_cons];omega
 have:=hneed l
 have ell2:(encSs l).length=l.length:=by rw [encSs_eq,List.length_map]
 try rw [ell2]
 exact evblock_loop hM T L hok HS (by omega) S.lt l 0 h t e o rfl (Nat.zero_le _) hok ⟨[],by simp⟩ S he hn (.refl _ _ _) (.refl _ _) rfl
end Go.Proofs.YtibigfkeaemanaaGreatDoor.L
end
section
namespace Go.Proofs.YtibigfkeaemanaaGreatDoor.L
open Go.Ab Go.Lang Go.Proofs.YtibigfkeaemanaaGreatDoor.X
set_option maxRecDepth 100000
theorem index_none' {s b:List UInt8} (h:indexV s b=none):Lib.index s b = -1:=by
 unfold indexV at h
 rw [List.find?_eq_none] at h
 refine Lib.index_none fun j hj=>?_
 have:=h j (List.mem_range.2 (by omega))
 exact Bool.eq_false_iff.2 this
theorem index_some' {s b:List UInt8} {i:Nat} (h:indexV s b=some i):Lib.index s b=i∧i + b.length ≤ s.length:=by
 unfold indexV at h
 rw [List.find?_range_eq_some] at h
 obtain ⟨h1,h2,h3⟩:=h
 have hi:i ≤ s.length:=by have:=List.mem_range.1 h2;omega
 refine ⟨Lib.index_first hi h1 fun j hj=>by have:=h3 j hj;unfold Lib.occAt;simpa using this,?_⟩
 have hp:b <+: s.drop i:=by simpa using h1
 have:=hp.length_le
 rw [List.length_drop] at this
 omega
theorem dlen {s:ByteArray}:s.data.toList.length=s.size:=by rw [Array.length_toList];rfl
theorem ext_data (s:ByteArray) (a b:Nat):(s.extract a b).data.toList=(s.data.toList.drop a).take (b - a):=by
 have:=Lib.extract_toList s a b
 rw [Lib.toList_data] at this
 exact this
theorem ext_take (s:ByteArray) (i:Nat):s.extract 0 i=⟨(s.data.toList.take i).toArray⟩:=by
 refine ByteArray.ext (Array.ext' ?_)
 rw [ext_data]
 simp
theorem ext_all (s:ByteArray):(⟨s.data.toList.toArray⟩:ByteArray)=s:=ByteArray.ext (by simp)
theorem pieces_loop {α:Type} {M kl:Nat} (hM:M ≤ 4611686018427387904) {Inv:α→AH→Prop} {step:α→ByteArray→α} {b:ByteArray} (hb:b.size ≤ M) (hT:∀ o h,Inv o h→Tab h) (hi:M < 4294967281 ∨ b.size=1)
  (round:∀ (o:α) (h:AH) (p:ByteArray) (K:Value→AH→Prop),p.size ≤ M→Inv o h→(∀ h',Inv (step o p) h'→K (.bool true) h')→roundP Tryz.prog kl [.string p] h K) {Q:RQ} :
  ∀ (n k:Nat) (s:ByteArray) (o:α) (h:AH),k + n=256→s.size ≤ M→Inv o h→(∀ h',Inv ((piecesV b.data.toList n s.data.toList).foldl (fun o p=>step o ⟨p.toArray⟩) o) h'→Q (.ret (.tuple #[])) h') →
  H65_1 (.string s) (.string b) (.chan (some kl)) (.int .i64 k) h Q:=by
 intro n
 induction n with
 | zero =>
  intro k s o h hk hs hI hq
  refine X65_1_ok ?_
  unfold X65_1
  have e:¬ ((k:Int) < 256):=by omega
  simp (disch:=first|exact dz|fail) only [e,SXB,SX,simprocAttr]
  exact hq h hI
 | succ n ih =>
  intro k s o h hk hs hI hq
  refine X65_1_ok ?_
  unfold X65_1
  have e:(k:Int) < 256:=by omega
  have hbn:(b.toList == (ByteArray.mk #[]).toList)=b.data.toList.isEmpty:=by
   rw [Lib.toList_data,Lib.toList_data]
   cases b.data.toList <;> rfl
  unfold piecesV at hq
  have last:(∀ h',Inv (step o s) h'→Q (.ret (.tuple #[])) h')→K65_6 (.string s) (.string b) (.chan (some kl)) (.int .i64 k) (.int .i64 (-1)) h Q:=by
   intro hl
   refine X65_6_ok ?_
   unfold X65_6
   have em:((-1:Int) < 0):=by omega
   simp (disch:=first|exact dz|fail) only [em,SXB,SX,simprocAttr]
   exact round o h s _ hs hI hl
  cases hbe:b.data.toList.isEmpty with
  | true =>
   rw [hbe,if_pos rfl] at hq
   simp (disch:=first|exact dz|fail) only [e,hbn,hbe,SXB,SX,simprocAttr]
   refine last fun h' hI'=>hq h' ?_
   rw [List.foldl_cons,List.foldl_nil,ext_all]
   exact hI'
  | false =>
   rw [hbe,if_neg Bool.false_ne_true] at hq
   have hbpos:0 < b.size:=by
    rw [← dlen]
    cases hl:b.data.toList with
    | nil=>rw [hl] at hbe;cases hbe
    | cons c l=>simp
   simp (disch:=first|exact dz|fail) only [e,hbn,hbe,SXB,SX,simprocAttr]
   have hidx:Ex Tryz.prog 79 [.string s,.string b].toArray h (.int .i64 (Lib.index s.data.toList b.data.toList)) h:=by
    by_cases hb1:b.size=1
    ·obtain ⟨c,hc⟩:∃ c,b=⟨#[c]⟩:=by
      have hlb:b.data.toList.length=1:=by rw [dlen];exact hb1
      match hbl:b.data.toList,hlb with
      | [c],_=>exact ⟨c,by rw [← ext_all b,hbl]⟩
     subst hc
     have:=index1_ok (h:=h) s c
     rw [← Lib.index_one] at this
     exact this
    ·rcases hi with hi | hi
     ·exact index_ok (hT o h hI) s b (by omega)
     ·exact absurd hi hb1
   refine HC.exact hidx ?_
   cases hix:indexV s.data.toList b.data.toList with
   | none =>
    rw [hix] at hq
    rw [index_none' hix]
    refine last fun h' hI'=>hq h' ?_
    rw [List.foldl_cons,List.foldl_nil,ext_all]
    exact hI'
   | some i =>
    rw [hix] at hq
    obtain ⟨h1,h2⟩:=index_some' hix
    rw [dlen,dlen] at h2
    rw [h1]
    refine X65_6_ok ?_
    unfold X65_6
    have en:¬ ((i:Int) < 0):=by omega
    simp (disch:=first|exact dz|fail) only [en,sub_hi (show i ≤ s.size by omega),SXB,SX,simprocAttr]
    refine round o h (s.extract 0 i) _ (by rw [ByteArray.size_extract];omega) hI fun h' hI'=>?_
    have ew:IntKind.i64.wrap ((i:Int) + (b.size:Nat))=((i + b.size:Nat):Int):=by rw [wrap64 (by omega) (by omega)];omega
    have ew2:(i:Int) + (b.size:Nat)=((i + b.size:Nat):Int):=by omega
    simp (disch:=first|exact dz|fail) only [ew,ew2,sub_lo (show i + b.size ≤ s.size by omega),SXB,SX,simprocAttr]
    refine ih (k + 1) (s.extract (i + b.size) s.size) (step o (s.extract 0 i)) h' (by omega) (by rw [ByteArray.size_extract];omega) hI' fun h2 hI2=>hq h2 ?_
    rw [List.foldl_cons,← ext_take]
    have ed:(s.extract (i + b.size) s.size).data.toList=s.data.toList.drop (i + b.data.toList.length):=by
     rw [ext_data,dlen]
     exact List.take_of_length_le (by rw [List.length_drop,dlen];omega)
    rw [ed] at hI2
    exact hI2
theorem pieces_ok {α:Type} {M kl:Nat} (hM:M ≤ 4611686018427387904) {Inv:α→AH→Prop} {step:α→ByteArray→α} {b:ByteArray} (hb:b.size ≤ M) (hT:∀ o h,Inv o h→Tab h) (hi:M < 4294967281 ∨ b.size=1)
  (round:∀ (o:α) (h:AH) (p:ByteArray) (K:Value→AH→Prop),p.size ≤ M→Inv o h→(∀ h',Inv (step o p) h'→K (.bool true) h')→roundP Tryz.prog kl [.string p] h K) {Q:RQ}
  (s:ByteArray) (o:α) (h:AH) (hs:s.size ≤ M) (hI:Inv o h) (hq:∀ h',Inv ((piecesV b.data.toList 256 s.data.toList).foldl (fun o p=>step o ⟨p.toArray⟩) o) h'→Q (.ret (.tuple #[])) h') :
  HC Tryz.prog 65 [.string s,.string b,.chan (some kl)].toArray h Q:=by
 refine X65_ok ?_
 unfold X65
 exact pieces_loop hM hb hT hi round 256 0 s o h rfl hs hI hq
end Go.Proofs.YtibigfkeaemanaaGreatDoor.L
end
section
namespace Go.Proofs.YtibigfkeaemanaaGreatDoor.L
open Go.Ab Go.Lang Go.Proofs.YtibigfkeaemanaaGreatDoor.X
set_option maxRecDepth 100000
theorem EnvG.appO {h:AH} {ke:Nat} {r t:Tri} {ns:List Value} {e:Env} {o:Lang.Out} (S:EnvG h ke r t ns e o) {x:Value} {p:ByteArray × ByteArray} (hx:Src h 2 x [encPair p]) (hs:o.length ≤ 1000000) :
  ∃ n' h',apT 40 2 32 (some (.agg #[.string ⟨#[]⟩,.string ⟨#[]⟩])) h t.o x=some (n',h')∧EnvG h' ke r ⟨t.n,t.v,n'⟩ ns e (o++[p])∧AdvE ke t h h'∧Mv h t ⟨t.n,t.v,n'⟩:=by
 have h1:∀ w ∈ [encPair p],w.cells.size=2:=fun w hw=>by rw [List.mem_singleton.1 hw];rfl
 have hz:∀ w ∈ o.map encPair,w.cells.size=2:=fun w hw=>by
  obtain ⟨q,_,rfl⟩:=List.mem_map.1 hw
  rfl
 obtain ⟨n',h',a1,a2,a3,a4,a5⟩:=S.out.append hx hz h1 (fun w hw=>by simp [flatC,encPair,Value.cells] at hw;rcases hw with rfl | rfl <;> rfl) (bytes:=32) (zero:=.agg #[.string ⟨#[]⟩,.string ⟨#[]⟩]) (by omega) (by omega) (by omega) rfl (by simp;omega)
 have fr:∀ k,k < h.size→blkOf t.o ≠ some k→h'.get k=h.get k:=a4
 have kn:∀ k,blkOf t.n=some k→h'.get k=h.get k:=fun k hk=>fr k (S.lts k (.inl hk)) fun e=>S.d2 k hk e
 have kv:∀ k,blkOf t.v=some k→h'.get k=h.get k:=fun k hk=>fr k (S.lts k (.inr (.inl hk))) fun e=>S.d3 k hk e
 have nw:∀ k,blkOf n' = some k→blkOf t.o=some k ∨ (h.size ≤ k∧k < h'.size):=fun k hk=>by
  rcases a5 with e1 | ⟨k',e1,e2,e3⟩
  ·rw [e1] at hk;exact .inl hk
  ·rw [e1] at hk;cases hk;exact .inr ⟨e2,e3⟩
 obtain ⟨vs,B,R⟩:=S.vals
 have a2':Gs 40 2 h' n' ((o++[p]).map encPair):=by rw [List.map_append];exact a2
 refine ⟨n',h',a1,⟨(fr ke S.lt fun e=>S.ne (.inr (.inr e))).trans S.row,S.names.mono kn,S.nsz,⟨vs,B.mono kv,R⟩,a2',?_,S.d1,fun k hk hv=>?_,fun k hk hv=>?_,Nat.lt_of_lt_of_le S.lt a3,fun k hk=>?_⟩,⟨a3,fun k h1 h2 h3=>fr k h1 fun e=>h3 (.inr (.inr e))⟩,fun k hk=>?_⟩
 ·rintro (hk | hk | hk)
  ·exact S.ne (.inl hk)
  ·exact S.ne (.inr (.inl hk))
  ·rcases nw ke hk with h | h
   ·exact S.ne (.inr (.inr h))
   ·have:=S.lt;omega
 ·rcases nw k hv with h | h
  ·exact S.d2 k hk h
  ·have:=S.lts k (.inl hk);omega
 ·rcases nw k hv with h | h
  ·exact S.d3 k hk h
  ·have:=S.lts k (.inr (.inl hk));omega
 ·rcases hk with hk | hk | hk
  ·have:=S.lts k (.inl hk);omega
  ·have:=S.lts k (.inr (.inl hk));omega
  ·rcases nw k hk with h | h
   ·have:=S.lts k (.inr (.inr h));omega
   ·exact h.2
 ·rcases hk with hk | hk | hk
  ·exact .inl (.inl hk)
  ·exact .inl (.inr (.inl hk))
  ·rcases nw k hk with h | h
   ·exact .inl (.inr (.inr h))
   ·exact .inr h.1
theorem celS_0 {op x:ByteArray} {a b:Lang.Expr} {body els:List Lang.Stmt}:(celS (.mk op x a b body els)).toArray[0]?=some (.string op):=rfl
theorem celS_1 {op x:ByteArray} {a b:Lang.Expr} {body els:List Lang.Stmt}:(celS (.mk op x a b body els)).toArray[1]?=some (.string x):=rfl
theorem celS_12 {op x:ByteArray} {a b:Lang.Expr} {body els:List Lang.Stmt}:(celS (.mk op x a b body els)).toArray[12]?=some (slV (encSs body)):=by
 have ha:=celE_len a
 have hb:=celE_len b
 rw [List.getElem?_toArray]
 unfold celS
 rw [List.getElem?_append_right (by simp [ha,hb])]
 simp [ha,hb]
theorem celS_13 {op x:ByteArray} {a b:Lang.Expr} {body els:List Lang.Stmt}:(celS (.mk op x a b body els)).toArray[13]?=some (slV (encSs els)):=by
 have ha:=celE_len a
 have hb:=celE_len b
 rw [List.getElem?_toArray]
 unfold celS
 rw [List.getElem?_append_right (by simp [ha,hb])]
 simp [ha,hb]
theorem ldN_S2 {h:AH} {k:Nat} {ty:TypeId} {fz:Nat × Nat} {so:Option Nat} {op x:ByteArray} {a b:Lang.Expr} {body els:List Lang.Stmt} (g:h.get k=some (.cells (celS (.mk op x a b body els)).toArray ty fz,so)):ldN 5 h (.pointer (some ⟨k,2,none⟩))=some (encE a):=by
 have ha:=celE_len a
 have hb:=celE_len b
 rw [ldN_ptr,g,rowC_cells,Option.bind_some,if_pos (by simp [celS_len])]
 rw [encE_eq]
 congr 2
 unfold celS
 simp [List.extract_eq_take_drop]
 rw [List.take_append_of_le_length (by omega)]
 exact List.take_of_length_le (by omega)
theorem ldN_S7 {h:AH} {k:Nat} {ty:TypeId} {fz:Nat × Nat} {so:Option Nat} {op x:ByteArray} {a b:Lang.Expr} {body els:List Lang.Stmt} (g:h.get k=some (.cells (celS (.mk op x a b body els)).toArray ty fz,so)):ldN 5 h (.pointer (some ⟨k,7,none⟩))=some (encE b):=by
 have ha:=celE_len a
 have hb:=celE_len b
 rw [ldN_ptr,g,rowC_cells,Option.bind_some,if_pos (by simp [celS_len])]
 rw [encE_eq]
 congr 2
 unfold celS
 simp [List.extract_eq_take_drop]
 rw [List.drop_append_of_le_length (by omega),List.drop_of_length_le (by omega),List.nil_append,List.take_append_of_le_length (by omega)]
 exact List.take_of_length_le (by omega)
structure StB (h hB:AH) (ke:Nat) (s:Lang.Stmt) (v:V) (sv:Value):Prop where
 K:Kp h.size h hB
 size:h.size + 3 ≤ hB.size
 g2:hB.get h.size=some (.cells #[.pointer (some ⟨ke,0,none⟩)] 74 (0,0),none)
 g3:hB.get (h.size + 1)=some (.cells (celS s).toArray 104 (0,0),none)
 g4:hB.get (h.size + 1 + 1)=some (.cells #[.int .i64 v.n,.string v.t,sv] 68 (0,0),none)
 sl:Sl sv (strL v.l)
theorem StB.adv {h hB hC:AH} {ke:Nat} {s:Lang.Stmt} {v:V} {sv:Value} {t:Tri} (X:StB h hB ke s v sv) (A:AdvE ke t hB hC) (hk:ke < h.size) (ht:∀ k,t.has k→k < h.size ∨ hB.size ≤ k) :
  hC.get h.size=hB.get h.size∧hC.get (h.size + 1)=hB.get (h.size + 1)∧hC.get (h.size + 1 + 1)=hB.get (h.size + 1 + 1):=by
 have hs:=X.size
 have g:∀ k,h.size ≤ k→k < h.size + 3→hC.get k=hB.get k:=fun k h1 h2=>A.get k (by omega) (by omega) fun e=>by have:=ht k e;omega
 exact ⟨g _ (by omega) (by omega),g _ (by omega) (by omega),g _ (by omega) (by omega)⟩
theorem work_ok {M:Nat} {h:AH} {ke k2 k3:Nat} {t:Tri} {e:Env} {o:Lang.Out} {body:List Lang.Stmt} {name p:ByteArray} {cc:Array Value} {fw:FuncId} (hb:hasBody Tryz.prog fw=true)
  (hfw:∀ (h1:AH) (Q:RQ),h1.get k2=some (.cells #[.pointer (some ⟨ke,0,none⟩)] 74 (0,0),none)→h1.get k3=some (.cells cc 104 (0,0),none)→HC Tryz.prog 33 [.pointer (some ⟨ke,0,none⟩),slV (encSs body)].toArray h1 (resK (fun _ h=>Q (.ret (.tuple #[])) h) (fun v h=>Q (.pan v) h)) →
   HC Tryz.prog fw [.pointer (some ⟨k2,0,none⟩),.pointer (some ⟨k3,0,none⟩)].toArray h1 Q)
  (S:EnvS h ke t e o) (he:∀ p ∈ e,VOK M p.2) (hp:VOK M { t:=p }) (hn:e.length + 1 + needB body ≤ 999999) (T:Tab h) (L:LoE ke t) (HB:BlockP M ke body)
  (g2:h.get k2=some (.cells #[.pointer (some ⟨ke,0,none⟩)] 74 (0,0),none)) (g3:h.get k3=some (.cells cc 104 (0,0),none)) (n2:k2 ≠ ke∧¬ t.has k2∧k2 < h.size) (n3:k3 ≠ ke∧¬ t.has k3∧k3 < h.size) :
  HC Tryz.prog 66 [.pointer (some ⟨ke,0,none⟩),.string name,.agg #[.int .i64 0,.string p,.slice none 0 0],.func (.func fw) #[] #[.pointer (some ⟨k2,0,none⟩),.pointer (some ⟨k3,0,none⟩)]].toArray h
   (BP ke t e h (· = blockV itoaB body (e++[(name,{ t:=p })]) o)):=by
 refine with_ok S (by omega) (VR.of (x:={ t:=p }) rfl) hb fun h1 t1 S1 A1 M1=>?_
 have T1:=T.advE A1 L
 refine hfw h1 _ ((A1.get k2 n2.2.2 n2.1 n2.2.1).trans g2) ((A1.get k3 n3.2.2 n3.1 n3.2.1).trans g3) ?_
 refine HC.mono (HB h1 t1 _ o S1 (fun q hq=>?_) (by simp;omega) T1 (L.mv M1 T)) fun r h2 hp=>?_
 ·rcases List.mem_append.1 hq with q1 | q1
  ·exact he q q1
  ·rw [List.mem_singleton.1 q1];exact hp
 ·obtain ⟨rfl,t2,o2,S2,A2,M2,rfl⟩:=hp
  exact ⟨rfl,t2,_,S2,A2,M2,rfl⟩
theorem clos2_ok {h1:AH} {ke k2 k3:Nat} {cc:Array Value} {body:List Lang.Stmt} (c12:cc[12]?=some (slV (encSs body))) {Q:RQ} (g2:h1.get k2=some (.cells #[.pointer (some ⟨ke,0,none⟩)] 74 (0,0),none)) (g3:h1.get k3=some (.cells cc 104 (0,0),none))
  (hh:HC Tryz.prog 33 [.pointer (some ⟨ke,0,none⟩),slV (encSs body)].toArray h1 (resK (fun _ h=>Q (.ret (.tuple #[])) h) (fun v h=>Q (.pan v) h))):HC Tryz.prog 67 [.pointer (some ⟨k2,0,none⟩),.pointer (some ⟨k3,0,none⟩)].toArray h1 Q:=by
 refine X67_ok ?_
 unfold X67
 simp (disch:=first|exact dz|fail) only [g2,g3,c12,SXB,SX,simprocAttr]
 exact hh
theorem clos3_ok {h1:AH} {ke k2 k3:Nat} {cc:Array Value} {body:List Lang.Stmt} (c12:cc[12]?=some (slV (encSs body))) {Q:RQ} (g2:h1.get k2=some (.cells #[.pointer (some ⟨ke,0,none⟩)] 74 (0,0),none)) (g3:h1.get k3=some (.cells cc 104 (0,0),none))
  (hh:HC Tryz.prog 33 [.pointer (some ⟨ke,0,none⟩),slV (encSs body)].toArray h1 (resK (fun _ h=>Q (.ret (.tuple #[])) h) (fun v h=>Q (.pan v) h))):HC Tryz.prog 68 [.pointer (some ⟨k2,0,none⟩),.pointer (some ⟨k3,0,none⟩)].toArray h1 Q:=by
 refine X68_ok ?_
 unfold X68
 simp (disch:=first|exact dz|fail) only [g2,g3,c12,SXB,SX,simprocAttr]
 exact hh
theorem slHi {h:AH} {s:Value} {l:List ByteArray} (hs:Sl s (strL l)) {k:Nat} (hk:k ≤ l.length):∃ s',sliceV Tryz.prog h 42 s none (some (.int .i64 (k:Int)))=some s'∧Sl s' (strL (l.take k)):=by
 have hu:(Tryz.prog).underlying 42=some (.slice 9):=by kernel_rfl
 obtain ⟨d,hd,hds⟩:∃ d,(Tryz.prog).info? 9=some d∧d.size=1:=⟨_,rfl,by kernel_rfl⟩
 generalize he:strL l=w at hs
 cases hs with
 | nil =>
  have hl:l=[]:=by cases l with | nil=>rfl | cons _ _=>cases he
  subst hl
  obtain rfl:k=0:=by simpa using hk
  refine ⟨.slice none 0 0,?_,.nil⟩
  show opSlice Tryz.prog h 42 (.slice none 0 0) none (some (.int .i64 ((0:Nat):Int)))=_
  unfold opSlice
  rw [hu]
  simp only [hd,bounds_high (Nat.le_refl 0)]
 | vs =>
  subst he
  refine ⟨VSl (strL (l.take k)),?_,.vs _⟩
  show opSlice Tryz.prog h 42 (VSl (strL l)) none (some (.int .i64 (k:Int)))=_
  unfold opSlice
  rw [hu]
  have hb:bounds? (strL l).toArray.size (strL l).toArray.size none (some (.int .i64 (k:Int)))=some (0,k):=bounds_high (by simp [strL];exact hk)
  simp only [VSl,hd,hb]
  have e1:((strL l).toArray[0]?).all (fun x=>decide (x.cells.size=d.size))=true:=by
   cases l with
   | nil=>rfl
   | cons a l=>simp [strL,hds,Value.cells]
  rw [if_pos e1]
  simp [strL,List.map_take]
theorem for_loop {M:Nat} (hM:4096 ≤ M) {hB:AH} {ke k2 k3:Nat} {t:Tri} {e:Env} {o:Lang.Out} {body:List Lang.Stmt} {name:ByteArray} {cc:Array Value} {l:List ByteArray} {sv:Value} (hl:Sl sv (strL l)) (hlM:∀ s ∈ l,s.size ≤ M) (hll:l.length ≤ 256)
  (he:∀ p ∈ e,VOK M p.2) (hn:e.length + 1 + needB body ≤ 999999) (T:Tab hB) (L:LoE ke t) (HB:BlockP M ke body) (c1:cc[1]?=some (.string name)) (c12:cc[12]?=some (slV (encSs body)))
  (g2:hB.get k2=some (.cells #[.pointer (some ⟨ke,0,none⟩)] 74 (0,0),none)) (g3:hB.get k3=some (.cells cc 104 (0,0),none)) (n2:k2 ≠ ke∧¬ t.has k2∧k2 < hB.size) (n3:k3 ≠ ke∧¬ t.has k3∧k3 < hB.size) {Q:RQ}
  (hq:∀ hC t',EnvS hC ke t' e (l.foldl (fun o p=>blockV itoaB body (e++[(name,{ t:=p })]) o) o)→AdvE ke t hB hC→Mv hB t t'→Q (.ret (.tuple #[])) hC) :
  ∀ (r:List ByteArray) (i:Nat) (h1:AH) (t1:Tri) (o1:Lang.Out),l.drop i=r→i ≤ l.length→EnvS h1 ke t1 e o1→AdvE ke t hB h1→Mv hB t t1→r.foldl (fun o p=>blockV itoaB body (e++[(name,{ t:=p })]) o) o1=l.foldl (fun o p=>blockV itoaB body (e++[(name,{ t:=p })]) o) o →
  H50_19 (.pointer (some ⟨k2,0,none⟩)) (.pointer (some ⟨k3,0,none⟩)) sv (.int .i64 l.length) (.int .i64 i) h1 Q:=by
 intro r
 induction r with
 | nil =>
  intro i h1 t1 o1 hd hi S A Mt hf
  have:=drop_nil hd
  refine X50_19_ok ?_
  unfold X50_19
  have en:¬ ((i:Int) < l.length):=by omega
  simp (disch:=first|exact dz|fail) only [en,SXB,SX,simprocAttr]
  refine hq h1 t1 ?_ A Mt
  rw [← hf]
  exact S
 | cons p r ih =>
  intro i h1 t1 o1 hd hi S A Mt hf
  obtain ⟨h1',h2',h3'⟩:=drop_cons hd
  refine X50_19_ok ?_
  unfold X50_19
  have en:(i:Int) < l.length:=by omega
  have hsl:sv=VSl (strL l):=by
   generalize hw:strL l=w at hl
   cases hl with
   | nil =>
    cases l with
    | nil=>simp at h3'
    | cons _ _=>cases hw
   | vs=>rfl
  have hm:∀ k,k < hB.size→¬ t.has k→¬ t1.has k:=fun k hk h1 h2=>by
   rcases Mt k h2 with h | h
   ·exact h1 h
   ·omega
  have hz:=A.size
  have g21:=(A.get k2 n2.2.2 n2.1 n2.2.1).trans g2
  have g31:=(A.get k3 n3.2.2 n3.1 n3.2.1).trans g3
  have hpM:=hlM p (List.mem_of_getElem? h1')
  subst hsl
  simp (disch:=first|exact dz|fail) only [en,ia_str h1',g21,g31,c1,SXB,SX,simprocAttr]
  have m2:k2 ≠ ke∧¬ t1.has k2∧k2 < h1.size:=⟨n2.1,hm k2 n2.2.2 n2.2.1,by omega⟩
  have m3:k3 ≠ ke∧¬ t1.has k3∧k3 < h1.size:=⟨n3.1,hm k3 n3.2.2 n3.2.1,by omega⟩
  refine HC.mono (work_ok (M:=M) hb_68 (fun h1 Q=>clos3_ok c12) S he ⟨by show NumOK 0;unfold NumOK;omega,hpM,(fun s hs=>by cases hs),Nat.zero_le _⟩ hn (T.advE A L) (L.mv Mt T) HB g21 g31 m2 m3) fun rr h3 hp=>?_
  obtain ⟨rfl,t3,o3,S3,A3,M3,rfl⟩:=hp
  simp only [resK_ret]
  refine ih (i + 1) h3 t3 _ h2' (by omega) S3 (A.trans A3 Mt) (Mt.trans M3 hz) ?_
  exact hf
end Go.Proofs.YtibigfkeaemanaaGreatDoor.L
end
section
namespace Go.Proofs.YtibigfkeaemanaaGreatDoor.L
open Go.Ab Go.Lang Go.Proofs.YtibigfkeaemanaaGreatDoor.X
set_option maxRecDepth 100000
theorem byOne_size (it:Int→ByteArray) (e:Env):∀ b:Lang.Expr,byOne b=true→(exprV it e b).t.size=1
 | .mk op _ _ text args=>by
  intro h
  simp only [byOne,Bool.and_eq_true,decide_eq_true_eq] at h
  have:=eqT_iff.1 h.1
  subst this
  unfold exprV
  have e1:eqT o_string o_number=false:=by kernel_rfl
  have e2:eqT o_string o_string=true:=by kernel_rfl
  rw [e1,if_neg Bool.false_ne_true,e2,if_pos rfl]
  exact h.2
theorem loop_at {h:AH} {k:Nat} {r:Loop} {s:Option Nat} (g:h.get k=some (.loop r,s)):loopAt h k=some (r,s):=by
 unfold loopAt
 rw [g]
theorem eveach_ok {M:Nat} (hM1:4096 ≤ M) (hM:M ≤ 4611686018427387904) {hB:AH} {ke k2 k3 k4 k5:Nat} {t:Tri} {e:Env} {o:Lang.Out} {body:List Lang.Stmt} {name s b:ByteArray} {cc c4:Array Value} (S:EnvS hB ke t e o) (hs:s.size ≤ M) (hb:b.size ≤ M) (hi:M < 4294967281 ∨ b.size=1)
  (he:∀ p ∈ e,VOK M p.2) (hn:e.length + 1 + needB body ≤ 999999) (T:Tab hB) (L:LoE ke t) (HB:BlockP M ke body) (c1:cc[1]?=some (.string name)) (c12:cc[12]?=some (slV (encSs body)))
  (g2:hB.get k2=some (.cells #[.pointer (some ⟨ke,0,none⟩)] 74 (0,0),none)) (g3:hB.get k3=some (.cells cc 104 (0,0),none)) (g4:hB.get k4=some (.cells c4 68 (0,0),none)) (h4:c4[1]?=some (.string s)) (g5:hB.get k5=some (.cells #[.string b] 9 (0,0),none))
  (n2:k2 ≠ ke∧¬ t.has k2∧k2 < hB.size) (n3:k3 ≠ ke∧¬ t.has k3∧k3 < hB.size) (n4:k4 < hB.size) (n5:k5 < hB.size) {Q:RQ} {X1:AH→Nat→Prop}
  (hq:∀ hC t',EnvS hC ke t' e ((piecesV b.data.toList 256 s.data.toList).foldl (fun o p=>blockV itoaB body (e++[(name,{ t:=⟨p.toArray⟩ })]) o) o)→AdvE ke t hB hC→Mv hB t t'→Q (.ret (.tuple #[])) hC) :
  rndP none hB∧rangeQ Tryz.prog (.func (.func 64) [].toArray [.pointer (some ⟨k4,0,none⟩),.pointer (some ⟨k5,0,none⟩)].toArray) (rec50_15 (.pointer (some ⟨k2,0,none⟩)) (.pointer (some ⟨k3,0,none⟩))) hB
   (fun j h=>jumpX (Q (.ret (.tuple [].toArray)) h) (Q (.ret (.tuple [].toArray)) h) (X1 h) (fun l=>False) j) (fun v h=>Q (.pan v) h):=by
 refine ⟨trivial,?_⟩
 show hasBody Tryz.prog 64=true∧HC Tryz.prog 64 _ _ _
 refine ⟨hb_64,?_⟩
 obtain ⟨rc,hrc⟩:∃ rc,rc=rec50_15 (.pointer (some ⟨k2,0,none⟩)) (.pointer (some ⟨k3,0,none⟩)):=⟨_,rfl⟩
 have hst:rc.state=.ready:=by rw [hrc];rfl
 have hpe:rc.pending=none:=by rw [hrc];rfl
 rw [← hrc]
 refine X64_ok ?_
 unfold X64
 have KL:Kp hB.size hB (hB.push (.loop rc) none):=by (repeat (first | exact Kp.refl _ _ | assumption | refine Kp.push ?_ _ _ (by first | omega | (simp only [sz_push,sz_put];omega)) | refine Kp.put ?_ _ _ (by first | omega | (simp only [sz_push,sz_put];omega))))
 have gl:(hB.push (.loop rc) none).get hB.size=some (.loop rc,none):=get_push_eq rfl
 have zl:(hB.push (.loop rc) none).size=hB.size + 1:=by simp
 generalize hB.push (.loop rc) none=hL at KL gl zl ⊢
 have g2L:=(KL.get k2 n2.2.2).trans g2
 have g3L:=(KL.get k3 n3.2.2).trans g3
 have g4L:=(KL.get k4 n4).trans g4
 have g5L:=(KL.get k5 n5).trans g5
 have SL:=S.kp KL
 have TL:=T.kp KL
 have hkl:hB.size ≠ ke:=by have:=S.lt;omega
 have htl:¬ t.has hB.size:=fun hh=>by have:=S.lts _ hh;omega
 simp (disch:=first|exact dz|fail) only [g4L,g5L,h4,SXB,SX,simprocAttr]
 refine HC.mono (pieces_ok (kl:=hB.size) (α:=Lang.Out) (M:=M) hM (Inv:=fun o' h'=>∃ t',EnvS h' ke t' e o'∧AdvE ke t hL h'∧Mv hL t t') (step:=fun o' p=>blockV itoaB body (e++[(name,{ t:=p })]) o') hb
  (fun o' h' ⟨t',S',A',M'⟩=>TL.advE A' L) hi (fun o1 h1 p K hp ⟨t1,S1,A1,M1⟩ hK=>?_) (Q:=fun r h'=>r=.ret (.tuple #[])∧∃ t',EnvS h' ke t' e ((piecesV b.data.toList 256 s.data.toList).foldl (fun o p=>blockV itoaB body (e++[(name,{ t:=⟨p.toArray⟩ })]) o) o)∧AdvE ke t hL h'∧Mv hL t t') s o hL hs ⟨t,SL,.refl _ _ _,.refl _ _⟩ fun h' hI=>⟨rfl,hI⟩) fun rr h3 hp=>?_
 ·have gl1:=(A1.get hB.size (by omega) hkl htl).trans gl
  have hm:∀ k,k < hL.size→¬ t.has k→¬ t1.has k:=fun k hk h1 h2=>by
   rcases M1 k h2 with h | h
   ·exact h1 h
   ·omega
  have g21:=(A1.get k2 (by omega) n2.1 n2.2.1).trans g2L
  have g31:=(A1.get k3 (by omega) n3.1 n3.2.1).trans g3L
  have z1:=A1.size
  have hrc2:rc = { rec50_15 (.pointer (some ⟨k2,0,none⟩)) (.pointer (some ⟨k3,0,none⟩)) with state:=.ready,pending:=none }:=by rw [hrc];rfl
  refine Y50_15_ok (st:=.ready) (pe:=none) (s:=none) (loop_at (hrc2 ▸ gl1)) ?_
  unfold Y50_15
  refine bq_of (loop_at gl1) ⟨hst,?_⟩
  have KB:∀ k,k ≠ hB.size→(h1.put hB.size (some (.loop { rc with state:=.busy },none))).get k=h1.get k:=fun k hk=>get_put_ne hk
  have glb:(h1.put hB.size (some (.loop { rc with state:=.busy },none))).get hB.size=some (.loop { rc with state:=.busy },none):=get_put_eq rfl
  have zb:(h1.put hB.size (some (.loop { rc with state:=.busy },none))).size=h1.size:=by simp
  dsimp only
  generalize h1.put hB.size (some (.loop { rc with state:=.busy },none))=hb1 at KB glb zb ⊢
  have htl1:=hm hB.size (by omega) htl
  have Sb:EnvS hb1 ke t1 e o1:=S1.keep (by omega) fun k hk=>KB k (by rcases hk with rfl | hk;exact fun e=>hkl e.symm;exact fun e=>htl1 (e ▸ hk))
  have g2b:=(KB k2 (by omega)).trans g21
  have g3b:=(KB k3 (by omega)).trans g31
  have Tb:Tab hb1:=by
   have T1:=TL.advE A1 L
   have hgn:=TL.size
   have hBn:=T.size
   obtain ⟨⟨e1,fz,s1,q1⟩,⟨m,e2,fz2,s2,q2⟩,q3⟩:=T1
   exact ⟨⟨e1,fz,s1,(KB _ (by omega)).trans q1⟩,⟨m,e2,fz2,s2,(KB _ (by omega)).trans q2⟩,by omega⟩
  simp (disch:=first|exact dz|fail) only [g2b,g3b,c1,SXB,SX,simprocAttr]
  refine HC.mono (work_ok (M:=M) hb_67 (fun h1 Q=>clos2_ok c12) Sb he ⟨by show NumOK 0;unfold NumOK;omega,hp,(fun s hs=>by cases hs),Nat.zero_le _⟩ hn Tb (L.mv M1 TL) HB g2b g3b ⟨n2.1,hm k2 (by omega) n2.2.1,by omega⟩ ⟨n3.1,hm k3 (by omega) n3.2.1,by omega⟩) fun rr h3 hp3=>?_
  obtain ⟨rfl,t3,o3,S3,A3,M3,rfl⟩:=hp3
  simp only [resK_ret]
  have glc:=(A3.get hB.size (by omega) hkl htl1).trans glb
  have htl3:¬ t3.has hB.size:=fun hh=>by
   rcases M3 _ hh with q | q
   ·exact htl1 q
   ·omega
  unfold endRd
  refine bq_of (loop_at glc) ?_
  have z3:=A3.size
  refine hK _ ⟨t3,S3.keep (by simp) fun k hk=>get_put_ne (by rcases hk with rfl | hk;exact fun e=>hkl e.symm;exact fun e=>htl3 (e ▸ hk)),⟨by simp;omega,fun k q1 q2 q3=>?_⟩,M1.trans M3 (by omega)⟩
  by_cases hk:k=hB.size
  ·subst hk
   rw [get_put_eq rfl,gl]
   congr 3
   obtain ⟨f1,f2,f3,f4,f5,f6,f7,f8⟩:=rc
   simp only at hst hpe
   subst hst hpe
   rfl
  ·rw [get_put_ne hk,A3.get k (by omega) q2 (hm k q1 q3),KB k hk]
   exact A1.get k q1 q2 q3
 ·obtain ⟨rfl,t',S',A',M'⟩:=hp
  simp only [resK_ret]
  have gl':=(A'.get hB.size (by omega) hkl htl).trans gl
  have htl':¬ t'.has hB.size:=fun hh=>by
   rcases M' _ hh with q | q
   ·exact htl q
   ·omega
  show bq (loopAt h3 hB.size) _
  refine bq_of (loop_at gl') ⟨(by rw [hst];intro e;cases e),?_⟩
  rw [hpe]
  refine hq _ t' (S'.keep (by simp) fun k hk=>get_put_ne (by rcases hk with rfl | hk;exact fun e=>hkl e.symm;exact fun e=>htl' (e ▸ hk))) ⟨by have:=A'.size;simp;omega,fun k q1 q2 q3=>?_⟩ (M'.less (by omega))
  rw [get_put_ne (by omega),A'.get k (by omega) q2 q3]
  exact KL.get k q1
end Go.Proofs.YtibigfkeaemanaaGreatDoor.L
end

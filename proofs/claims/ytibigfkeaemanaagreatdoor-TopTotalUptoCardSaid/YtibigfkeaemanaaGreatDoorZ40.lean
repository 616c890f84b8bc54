import Derived.Test.YtibigfkeaemanaaGreatDoorZ39
set_option linter.unusedVariables false
set_option linter.unusedSimpArgs false
section
namespace Go.Proofs.YtibigfkeaemanaaGreatDoor.L
open Go.Ab Go.Lang Go.Proofs.YtibigfkeaemanaaGreatDoor.X
set_option maxRecDepth 100000
def textOne:ByteArray:=⟨#[109,97,112,32,123,32,101,109,105,116,32,118,97,108,117,101,44,32,107,101,121,59,32,125,32,114,101,100,117,99,101,32,123,32,125]⟩
theorem readOne:∃ p,parseF textOne=.ok p∧(mapV itoaB p ⟨#[107]⟩ ⟨#[118]⟩).length=1:=by
 have e:(match parseF textOne with | .ok p=>(mapV itoaB p ⟨#[107]⟩ ⟨#[118]⟩).length == 1 | .error _=>false)=true:=by kernel_rfl
 cases h:parseF textOne with
 | error f=>rw [h] at e;cases e
 | ok p=>rw [h] at e;exact ⟨p,rfl,by simpa using e⟩
theorem Nib.mono {h h':AH} (N:Nib h) (K:Kp h.size h h'):Nib h':=N.kp K
theorem topTotal_main {h:AH} (G:Gl h) (N:Nib h) (prog data:ByteArray) (hd:data.size ≤ 1048576) (want:Int) (hw:want ≤ 9223372036854775807):HC Tryz.prog 3 [.string prog,.string data,.int .i64 want].toArray h fun r _=>∃ v,r=.ret v∧v=.bool true:=by
 refine X3_ok ?_
 unfold X3
 generalize hs2:stN 2=s2
 generalize hl2:ldN 2=l2
 refine HC.mono (parse_ok (s:=textOne) G.g) fun r h1 hp=>?_
 obtain ⟨p0,hr0,hm0⟩:=readOne
 rw [hr0] at hp
 obtain ⟨K1,q,rfl,hq,hq2,gq⟩:=hp
 have ok0:=(parseF_rg textOne).of_ok hr0
 have sm0:=parseF_small hr0
 have G1:=G.kp K1
 have N1:=N.kp K1
 subst hs2 hl2
 simp (disch:=first|exact dz|fail) only [SXB,SX,simprocAttr]
 refine bq_of (x:=((h1.push (.cells #[.int .i64 0,.int .i64 0] 25 (0,0)) none).put h1.size (some (.cells #[.int .i64 0,.int .i64 0] 25 (0,0),none)))) (by rfl) ?_
 generalize hh2:((h1.push (.cells #[.int .i64 0,.int .i64 0] 25 (0,0)) none).put h1.size (some (.cells #[.int .i64 0,.int .i64 0] 25 (0,0),none)))=h2
 have gq2:h2.get q=some (.cells (celP p0).toArray 66 (0,0),none):=by rw [← hh2,get_put_ne (by omega),get_push_ne (by omega)];exact gq
 have K2:Kp h1.size h1 h2:=by rw [← hh2];(repeat (first | exact Kp.refl _ _ | assumption | refine Kp.push ?_ _ _ (by first | omega | (simp only [sz_push,sz_put];omega)) | refine Kp.put ?_ _ _ (by first | omega | (simp only [sz_push,sz_put];omega))))
 have z2:h2.size=h1.size + 1:=by rw [← hh2];simp
 have gf:h2.get h1.size=some (.cells #[.int .i64 0,.int .i64 0] 25 (0,0),none):=by rw [← hh2];exact get_put_eq rfl
 clear hh2
 have G2:=G1.kp K2
 have N2:=N1.kp K2
 simp (disch:=first|exact dz|fail) only [gf,SXB,SX,simprocAttr]
 refine (evmap_ok (M:=4096) (by omega) (by omega) ok0.1 (.inl (by omega)) (by have:=needB_le p0.map;have:=sm0.1;omega) G2.t gq2 (key:=⟨#[107]⟩) (val:=⟨#[118]⟩) (by decide) (by decide)).mono ?_
 rintro rr h3 ⟨o1,rfl,K3,O3,b3⟩
 have l3:=(gs_rd O3 fun k hk=>(b3 k hk).2).len
 rw [pairs_len,hm0] at l3
 have G3:=G2.kp K3
 have N3:=N2.kp K3
 have gf3:=(K3.get h1.size (by omega)).trans gf
 have z3:=K3.size
 simp (disch:=first|exact dz|fail) only [l3,SXB,SX,simprocAttr]
 refine HC.mono (parse_ok (s:=prog) G3.g) fun r h4 hp=>?_
 obtain ⟨K4,hp⟩:=hp
 have G4:=G3.kp K4
 have N4:=N3.kp K4
 have gf4:=(K4.get h1.size (by omega)).trans gf3
 have z4:=K4.size
 have hrg:=parseF_rg prog
 cases hpf:parseF prog with
 | error f =>
  rw [hpf] at hp
  dsimp only at hp
  subst hp
  have hf:=hrg.of_err hpf
  have e0:(((f.1:Nat):Int) == 0)=false:=by simp;exact hf
  simp (disch:=first|exact dz|fail) only [gf4,SXB,SX,simprocAttr]
  refine bq_of (x:=h4.put h1.size (some (.cells #[.int .i64 (f.1:Nat),.int .i64 (f.2:Nat)] 25 (0,0),none))) (by rfl) ?_
  simp (disch:=first|exact dz|fail) only [e0,SXB,SX,simprocAttr]
  exact ⟨_,rfl,rfl⟩
 | ok p =>
  rw [hpf] at hp
  obtain ⟨q4,rfl,hq4,hq42,gq4⟩:=hp
  have okp:=hrg.of_ok hpf
  have smp:=parseF_small hpf
  simp (disch:=first|exact dz|fail) only [gf4,SXB,SX,simprocAttr]
  refine bq_of (x:=h4.put h1.size (some (.cells #[.int .i64 0,.int .i64 0] 25 (0,0),none))) (by rfl) ?_
  have gf5:(h4.put h1.size (some (.cells #[.int .i64 0,.int .i64 0] 25 (0,0),none))).get h1.size=some (.cells #[.int .i64 0,.int .i64 0] 25 (0,0),none):=get_put_eq rfl
  have z5:(h4.put h1.size (some (.cells #[.int .i64 0,.int .i64 0] 25 (0,0),none))).size=h4.size:=by simp
  have gq5:=(get_put_ne (h:=h4) (k:=h1.size) (j:=q4) (v:=some (.cells #[.int .i64 0,.int .i64 0] 25 (0,0),none)) (by omega)).trans gq4
  have K5:Kp h1.size h1 (h4.put h1.size (some (.cells #[.int .i64 0,.int .i64 0] 25 (0,0),none))):=⟨by rw [z5];omega,fun k hk=>by rw [get_put_ne (by omega),K4.get k (by omega),K3.get k (by omega),K2.get k hk]⟩
  generalize h4.put h1.size (some (.cells #[.int .i64 0,.int .i64 0] 25 (0,0),none))=h5 at gf5 z5 gq5 K5 ⊢
  have S5:LawS q4 p [] h5:=⟨G1.kp K5,N1.kp K5,by omega,gq5,fun x hx=>by cases hx⟩
  simp (disch:=first|exact dz|fail) only [gf5,SXB,SX,simprocAttr]
  refine (recs_ok (h:=h5) (s:=data) (by omega) 0 data.size).mono ?_
  rintro rr h6 ⟨vw,rfl,K6,O6,b6⟩
  have S6:=(S5.kp K6).add (l:=(allR data).map encR) (O6.rd (fun v hv=>by obtain ⟨y,_,rfl⟩:=List.mem_map.1 hv;rfl) fun k hk=>(b6 k hk).2)
  simp (disch:=first|exact dz|fail) only [SXB,SX,simprocAttr]
  refine (plan_ok (h:=h6) (size:=data.size) (by omega) hw).mono ?_
  rintro rr h7 ⟨vl,rfl,K7,O7,b7⟩
  have S7:=(S6.kp K7).add (l:=(planF data.size (planW data.size want) (data.size + 1) 0).map encSp) (O7.rd (fun v hv=>by obtain ⟨y,_,rfl⟩:=List.mem_map.1 hv;rfl) fun k hk=>(b7 k hk).2)
  simp (disch:=first|exact dz|fail) only [SXB,SX,simprocAttr]
  have hw1:1 ≤ planW data.size want:=by unfold planW;omega
  have hLl:=planF_len (size:=data.size) hw1 (data.size + 1) 0 (Nat.zero_le _)
  refine split_loop okp (by have:=needB_le p.map;have:=smp.1;omega) hd (L:=planF data.size (planW data.size want) (data.size + 1) 0) (by omega) (xs:=[(vl,(planF data.size (planW data.size want) (data.size + 1) 0).map encSp),(vw,(allR data).map encR)]) (by simp) (by simp) _ 0 0 h7 rfl (Nat.zero_le _) ?_ (Nat.zero_le _) S7
  exact (plan_all hw1).symm
theorem total_gl (m:Int):Gl (heap0 Rows.topTotalUptoRow.laid m):=by
 have hm:(heap0 Rows.topTotalUptoRow.laid m).get 1=some (.cells #[.int .i64 m] 3 (0,1),none):=by
  unfold heap0 AH.laidM
  rw [AH.get_put,if_pos rfl]
 refine ⟨⟨⟨m,3,(0,1),none,hm⟩,?_,of_decide_eq_true (by kernel_rfl)⟩,⟨?_,⟨m,3,(0,1),none,hm⟩,of_decide_eq_true (by kernel_rfl)⟩⟩
 ·exact ⟨157,(0,1),none,by kernel_rfl⟩
 ·exact ⟨173,(0,1),none,by kernel_rfl⟩
theorem total_nib (m:Int):Nib (heap0 Rows.topTotalUptoRow.laid m):=by
 refine ⟨⟨[0x00000000,0x105EC76F,0x20BD8EDE,0x30E349B1,0x417B1DBC,0x5125DAD3,0x61C69362,0x7198540D,0x82F63B78,0x92A8FC17,0xA24BB5A6,0xB21572C9,0xC38D26C4,0xD3D3E1AB,0xE330A81A,0xF36E6F75],110,(0,1),none,by kernel_rfl,rfl,by decide⟩,of_decide_eq_true (by kernel_rfl)⟩
theorem topTotal_law (m:Int) (prog data:Ty.str.T) (want:(Ty.int .i64).T) (w0:Ty.str.WF prog) (w1:Ty.str.WF data) (w2:(Ty.int .i64).WF want) (hb:Ty.str.bulk prog + Ty.str.bulk data + (Ty.int .i64).bulk want ≤ 1048576):HF Tryz.prog 3 #[Ty.str.val prog,Ty.str.val data,(Ty.int .i64).val want] (heap0 Rows.topTotalUptoRow.laid m) fun v _=>v=.bool true:=by
 have hd:ByteArray.size data ≤ 1048576:=by
  have:Ty.str.bulk data=ByteArray.size data + 1:=rfl
  omega
 have hw:(Lit.int .i64 want).wf=true:=w2
 have hw2:want ≤ 9223372036854775807:=by
  simp only [Lit.wf,Bool.and_eq_true,decide_eq_true_eq] at hw
  exact hw.2
 exact HC.to_HF (topTotal_main (total_gl m) (total_nib m) prog data hd want hw2)
end Go.Proofs.YtibigfkeaemanaaGreatDoor.L
end

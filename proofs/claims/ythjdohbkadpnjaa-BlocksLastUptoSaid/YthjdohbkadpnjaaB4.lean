/-
  Managers of blocks: reports.
-/
import Derived.Test.YthjdohbkadpnjaaB3
namespace Go.Proofs.Ythjdohbkadpnjaa.B
open Go.Ab Go.Proofs.Ythjdohbkadpnjaa.X
set_option linter.unusedVariables false
set_option linter.unusedSimpArgs false
set_option maxRecDepth 100000

structure V where
  n : Int
  re : Nat
  im : Nat
  heard : Int
  held : List Blk
def Nd.v (x : Nd) : V := ⟨x.n, x.re, x.im, x.heard, x.held⟩

def put (l : List V) (x : V) : List V := if l.any (fun y => y.n == x.n) then l.map (fun y => if y.n == x.n then x else y) else l ++ [x]
def ins (l : List Blk) (b : Blk) : List Blk := if l.contains b then l else l ++ [b]
def insAll (l m : List Blk) : List Blk := m.foldl ins l

theorem ins_nodup {l : List Blk} (h : l.Nodup) (b : Blk) : (ins l b).Nodup := by
  unfold ins
  split
  · exact h
  · rename_i hc
    rw [List.nodup_append]
    refine ⟨h, by simp, fun x hx y hy => ?_⟩
    rw [List.mem_singleton.1 hy]
    intro e
    subst e
    exact hc (by simpa using hx)

theorem held_put {h : AH} {k : Nat} {l : List Blk} (H : HeldAt h k l) (b : Blk) :
    ∃ h', opMapUpdate Try.prog h 72 (.map (some k)) (encB b) (.int .i64 1) = some h' ∧ HeldAt h' k (ins l b) ∧ h'.size = h.size ∧ ∀ j, j ≠ k → h'.get j = h.get j := by
  obtain ⟨⟨bs, clk, hg, hc, hn, hbs⟩, hd⟩ := H
  have hf := find_blk (f := fun b : Blk × Nat => (⟨encB b.1, .int .i64 1, b.2⟩ : MapEntry)) (g := fun b => b.1) (fun _ => rfl) b bs false
  have hc2 := held_find (bs := bs) (b := b)
  rw [hbs] at hc2
  cases hw : findW (fun x : Blk × Nat => eqB b x.1) bs 0 with
  | none =>
    rw [hw] at hf hc2
    refine ⟨_, mapUpdate_new Try.underlying72 hg hf, ?_, rfl, fun j hj => get_put_ne hj⟩
    have e : ins l b = l ++ [b] := by unfold ins; rw [← hc2]; rfl
    refine ⟨⟨bs ++ [(b, clk)], clk + 1, ?_, ?_, ?_, ?_⟩, ins_nodup hd b⟩
    · rw [get_put_eq rfl]; simp
    · intro x hx
      rcases List.mem_append.1 hx with h1 | h1
      · have := hc x h1; omega
      · rw [List.mem_singleton.1 h1]; simp
    · rw [List.map_append, List.nodup_append]
      refine ⟨hn, by simp, fun x hx y hy => ?_⟩
      obtain ⟨z, hz, rfl⟩ := List.mem_map.1 hx
      have := hc z hz
      simp at hy
      omega
    · rw [List.map_append, hbs, e]; rfl
  | some r =>
    rw [hw] at hf hc2
    obtain ⟨q1, q2⟩ := findW_at hw
    have e : ins l b = l := by unfold ins; rw [← hc2]; rfl
    have hkey : encB r.2.1 = encB b := by rw [eqB_iff.1 q2]
    refine ⟨_, mapUpdate_old (e := ⟨encB r.2.1, .int .i64 1, r.2.2⟩) Try.underlying72 hg hf (by simp [q1]) hkey rfl (by simp [encB, Instr.sameBits]), ?_, rfl, fun j hj => get_put_ne hj⟩
    rw [e]
    refine ⟨⟨bs, clk, ?_, hc, hn, hbs⟩, hd⟩
    rw [get_put_eq rfl, modify_same]
    intro x hx
    rw [q1] at hx
    cases hx
    simp only [hkey]

theorem find_nd (n : Int) (ns : List Nd) (e : Bool) : opFind Try.prog 3 (.int .i64 n) (ns.map Nd.ent).toArray e = some ((findW (fun x : Nd => n == x.n) ns 0).map fun r => (r.1, r.2.val)) :=
  opFind_now Try.underlying3 rfl (by cases e <;> kernel_rfl) fun x _ => rfl

theorem nodes_put {h : AH} {km kn : Nat} {rep life : Int} {ns : List Nd} (M : Mgr h km kn rep life ns) (x : V) {kh : Nat} (hk : kh < h.size ∧ kh ≠ km ∧ kh ≠ kn) (H : HeldAt h kh x.held) (hh : 0 ≤ x.heard ∧ x.heard ≤ 1099511627776) :
    ∃ h' ns', opMapUpdate Try.prog h 85 (.map (some kn)) (.int .i64 x.n) (.agg #[.complex .f64 x.re x.im, .int .i64 x.heard, .map (some kh)]) = some h' ∧ Mgr h' km kn rep life ns' ∧ ns'.map Nd.v = put (ns.map Nd.v) x ∧
      h'.size = h.size ∧ ∀ j, j ≠ kn → h'.get j = h.get j := by
  obtain ⟨clk, hg, hc⟩ := M.n
  have hf := find_nd x.n ns false
  have hne := M.ne
  cases hw : findW (fun y : Nd => x.n == y.n) ns 0 with
  | none =>
    rw [hw] at hf
    have hno := findW_none.1 hw
    refine ⟨_, ns ++ [⟨x.n, x.re, x.im, x.heard, x.held, kh, clk⟩], mapUpdate_new Try.underlying85 hg hf, ⟨?_, ⟨clk + 1, ?_, ?_⟩, ?_, ?_, ?_, ?_, ?_, hne, ?_, ?_, M.life⟩, ?_, rfl, fun j hj => get_put_ne hj⟩
    · rw [get_put_ne hne]; exact M.m
    · rw [get_put_eq rfl]; simp [Nd.ent, Nd.val]
    · intro y hy
      rcases List.mem_append.1 hy with h1 | h1
      · have := hc y h1; omega
      · rw [List.mem_singleton.1 h1]; simp
    · rw [List.map_append, List.nodup_append]
      refine ⟨M.born, by simp, fun a ha b hb => ?_⟩
      obtain ⟨z, hz, rfl⟩ := List.mem_map.1 ha
      have := hc z hz
      simp at hb
      omega
    · rw [List.map_append, List.nodup_append]
      refine ⟨M.keys, by simp, fun a ha b hb => ?_⟩
      obtain ⟨z, hz, rfl⟩ := List.mem_map.1 ha
      have h1 := hno z hz
      simp only [List.map_cons, List.map_nil, List.mem_singleton] at hb
      rw [hb]
      intro e
      rw [e] at h1
      simp at h1
    · intro y hy
      rcases List.mem_append.1 hy with h1 | h1
      · exact (M.held y h1).mono (get_put_ne (M.nek y h1).2)
      · rw [List.mem_singleton.1 h1]; exact H.mono (get_put_ne hk.2.2)
    · exact M.lt
    · intro y hy
      rcases List.mem_append.1 hy with h1 | h1
      · exact M.ltk y h1
      · rw [List.mem_singleton.1 h1]; exact hk.1
    · intro y hy
      rcases List.mem_append.1 hy with h1 | h1
      · exact M.nek y h1
      · rw [List.mem_singleton.1 h1]; exact hk.2
    · intro y hy
      rcases List.mem_append.1 hy with h1 | h1
      · exact M.heard y h1
      · rw [List.mem_singleton.1 h1]; exact hh
    · unfold put
      rw [if_neg]
      · simp [Nd.v]
      · rw [List.any_eq_true]
        rintro ⟨y, hy, e⟩
        obtain ⟨z, hz, rfl⟩ := List.mem_map.1 hy
        have h1 := hno z hz
        have e' : z.n = x.n := by simpa [Nd.v] using e
        rw [e'] at h1
        simp at h1
  | some r =>
    rw [hw] at hf
    obtain ⟨q1, q2⟩ := findW_at hw
    have hrn : r.2.n = x.n := by simpa using (beq_iff_eq.1 q2).symm
    let u : Nd → Nd := fun y => { y with re := x.re, im := x.im, heard := x.heard, held := x.held, kh := kh }
    have hmem := fun (y : Nd) (hy : y ∈ ns.modify r.1 u) => mem_modify hy
    have hr : r.2 ∈ ns := List.mem_of_getElem? q1
    refine ⟨_, ns.modify r.1 u, mapUpdate_old (e := r.2.ent) Try.underlying85 hg hf (by simp [q1]) (by simp [Nd.ent, hrn]) rfl (by simp [Instr.sameBits]), ⟨?_, ⟨clk, ?_, ?_⟩, ?_, ?_, ?_, ?_, ?_, hne, ?_, ?_, M.life⟩, ?_, rfl, fun j hj => get_put_ne hj⟩
    · rw [get_put_ne hne]; exact M.m
    · rw [get_put_eq rfl, modify_map (u := u)]
      intro y hy
      rw [q1] at hy
      cases hy
      simp [Nd.ent, Nd.val, u, hrn]
    · intro y hy
      rcases hmem y hy with h1 | ⟨z, hz, rfl⟩
      · exact hc y h1
      · exact hc z (List.mem_of_getElem? hz)
    · rw [map_modify_same (u := u) (fun y _ => rfl)]; exact M.born
    · rw [map_modify_same (u := u) (fun y _ => rfl)]; exact M.keys
    · intro y hy
      rcases hmem y hy with h1 | ⟨z, hz, rfl⟩
      · exact (M.held y h1).mono (get_put_ne (M.nek y h1).2)
      · exact H.mono (get_put_ne hk.2.2)
    · exact M.lt
    · intro y hy
      rcases hmem y hy with h1 | ⟨z, hz, rfl⟩
      · exact M.ltk y h1
      · exact hk.1
    · intro y hy
      rcases hmem y hy with h1 | ⟨z, hz, rfl⟩
      · exact M.nek y h1
      · exact hk.2
    · intro y hy
      rcases hmem y hy with h1 | ⟨z, hz, rfl⟩
      · exact M.heard y h1
      · exact hh
    · unfold put
      rw [if_pos (by rw [List.any_eq_true]; exact ⟨r.2.v, List.mem_map_of_mem hr, by simp [Nd.v, hrn]⟩)]
      apply List.ext_getElem?
      intro j
      simp only [List.getElem?_map, List.getElem?_modify]
      by_cases e : r.1 = j
      · subst e
        rw [q1]
        simp [Nd.v, u, hrn]
      · simp only [e, if_false]
        cases hj : ns[j]? with
        | none => rfl
        | some y =>
          simp only [Option.map_some, id]
          have : y.n ≠ x.n := by
            intro e2
            exact e (nodup_idx M.keys q1 hj (by rw [hrn, e2]))
          have h3 : ((y.v).n == x.n) = false := by simpa [Nd.v] using this
          simp [h3]

theorem beat_loop {h0 : AH} {km kn kb kh : Nat} {rep life n : Int} {ns : List Nd} {re im : Nat} {heard : Int} {v : Value} {l : List Blk} (S : Sl v (l.map encB)) (hl : l.length ≤ 1048576) (hh : 0 ≤ heard ∧ heard ≤ 1099511627776) (hkb : h0.size ≤ kb) (hkh : h0.size ≤ kh) (hne : kb ≠ kh)
    (M : Mgr h0 km kn rep life ns) {Q : Res → AH → Prop}
    (hQ : ∀ h' ns' held, held = insAll [] l → Mgr h' km kn rep life ns' → ns'.map Nd.v = put (ns.map Nd.v) ⟨n, re, im, heard, held⟩ → h0.size ≤ h'.size → (∀ j, j < h0.size → j ≠ kn → h'.get j = h0.get j) → Q (.ret (.tuple #[])) h') :
    ∀ (r : List Blk) (i : Nat) (h : AH), l.drop i = r → i ≤ l.length → Kp h0.size h0 h → kb < h.size → kh < h.size → h.get kb = some (.cells #[.complex .f64 re im, .int .i64 heard, .map (some kh)] 74 (0, 0), none) → HeldAt h kh (insAll [] (l.take i)) →
      H21_3 (.pointer (some ⟨km, 0, none⟩)) (.int .i64 n) (.pointer (some ⟨kb, 0, none⟩)) v (.int .i64 l.length) (.int .i64 i) h Q := by
  intro r
  induction r with
  | nil =>
    intro i h hd hi K hb1 hb2 hg H
    have hlen := drop_nil hd
    refine X21_3_ok ?_
    unfold X21_3
    have e : ¬ ((i : Int) < l.length) := by omega
    have M2 := M.mono K
    have g1 := M2.m
    simp (disch := (first | omega | (simp only [beq_iff_eq, sz_push, sz_put, cells_agg, cells_int, cells_bool, cells_string, cells_pointer, cells_slice, cells_map, cells_iface, cells_nilIface, cells_func, cells_float, cells_complex, cells_vs, cells_fp, one_int, one_bool, one_string, one_pointer, one_slice, one_map, one_iface, one_nilIface, one_func, one_float, one_complex, one_vs, one_fp, List.size_toArray, List.length_cons, List.length_nil, List.all_cons, List.all_nil, Bool.and_true, Bool.true_and, Bool.and_self, Nat.zero_add, Nat.add_zero, Nat.reduceAdd, Nat.reduceLeDiff]; done) | (simp only [beq_iff_eq, ne_eq, sz_push, sz_put]; omega) | assumption | fail)) only [e, hg, g1, bin_add_3, bin_eql_3, bin_eql_32_nn, bin_eql_32_an, bin_eql_37, bin_geq_3, bin_geq_37, bin_gtr_120, bin_gtr_3, bin_gtr_37, bin_leq_3, bin_leq_37, bin_lss_120, bin_lss_3, bin_lss_37, bin_mul_3, bin_neq_120, bin_neq_3, bin_neq_37, bin_neq_4, bin_rem_3, bin_sub_3, eqs_25, bin_eql_25, bin_neq_25, eqs_48, bin_eql_48, bin_neq_48, eqs_58, bin_eql_58, un_not, max_3, min_3, conv_3_120, rng_72, rng_85, hb_2, hb_3, hb_4, hb_5, hb_6, hb_7, hb_8, hb_9, hb_10, hb_11, hb_12, hb_13, hb_14, hb_15, hb_16, hb_17, hb_18, hb_19, hb_20, hb_21, hb_22, hb_23, hb_24, hb_25, hb_26, hb_27, hb_28, hb_29, hb_30, hb_31, hb_32, hb_33, hb_34, hb_35, hb_36, hb_37, hb_38, hb_39, hb_40, hb_41, hb_42, hb_43, hb_44, hb_45, hb_46, hb_47, hb_48, hb_49, hb_50, hb_51, hb_52, hb_53, hb_54, hb_55, hb_56, hb_57, hb_58, hb_59, hb_60, hb_61, hb_62, hb_63, hb_64, hb_65, hb_66, hb_67, hb_68, hb_69, hb_70, hb_71, hb_72, hb_73, hb_74, hb_75, hb_76, hb_77, hb_78, hb_79, hb_80, hb_81, hb_82, hb_83, hb_84, hb_85, hb_86, hb_87, hb_88, hb_89, hb_90, hb_91, hb_92, hb_93, hb_94, hb_95, hb_96, hb_97, hb_98, hb_99, hb_100, hb_101, hb_102, hb_103, hb_104, hb_105, hb_106, bq_some, oq_some, get_push_e, get_push_ne, get_put_e, get_put_ne, sz_push, sz_put, rowC_cells, setC_cells, ld1_ptr, ld1_fp, ldN_ptr, ldN_fp, stN_ptr, fa_ptr, fa_fp, fd1_agg, fdN_agg, ia_vs, ia_sl, iaA_ptr, iaA_fp, lenL_vs, lenL_sl, lenL_slV, lenS_s, lenM_nil, lenM_map, lenE_map, rngE_map, opExtract_tuple, nilV_ptr, nilV_iface, nilV_func, nilV_fp, pickV_bool, wrap64, cells_agg, cells_int, cells_bool, cells_string, cells_pointer, cells_slice, cells_map, cells_iface, cells_nilIface, cells_func, cells_float, cells_complex, cells_vs, cells_fp, one_int, one_bool, one_string, one_pointer, one_slice, one_map, one_iface, one_nilIface, one_func, one_float, one_complex, one_vs, one_fp, setFrom_nil, setFrom_cons, bd_eq, bdF_nil, bdF_cons, bs_eq, new1, new2, mm1, mm2, callX_func, callP_func, condP_true, condP_false, guardQ_true, guardQ_false, guardQ_true', guardQ_false', plain_int, plain_bool, plain_string, plain_float, plain_complex, Option.bind_some, Option.bind_none, Option.map_some, Option.map_none, List.getElem?_toArray, List.getElem?_cons_zero, List.getElem?_cons_succ, List.size_toArray, List.length_cons, List.length_nil, List.extract_toArray, List.extract_eq_take_drop, List.drop_zero, List.drop_succ_cons, List.take_succ_cons, List.take_zero, List.take_nil, List.drop_nil, List.setIfInBounds_toArray, List.set_cons_zero, List.set_cons_succ, List.toList_toArray, List.all_cons, List.all_nil, Bool.and_true, Bool.true_and, Bool.and_self, Bool.false_and, Bool.and_false, Bool.or_false, Bool.false_or, Bool.or_true, Bool.true_or, Bool.not_true, Bool.not_false, if_true, if_false, and_true, true_and, false_and, and_false, eq_self, ne_eq, not_true_eq_false, not_false_eq_true, decide_true, decide_false, Bool.false_eq_true, Bool.true_eq_false, reduceIte, Nat.zero_add, Nat.add_zero, Nat.mul_one, Nat.one_mul, Nat.zero_mul, Int.toNat_natCast, List.nil_append, List.append_nil, List.cons_append, Array.toList_empty, List.getElem?_map, ge_iff_le, gt_iff_lt, decide_eq_true_eq, bne_self_eq_false, beq_self_eq_true, Int.natCast_nonneg, Nat.lt_irrefl, Nat.le_refl]
    rw [List.take_of_length_le hlen] at H
    obtain ⟨h', ns', a1, a2, a3, a4, a5⟩ := nodes_put M2 ⟨n, re, im, heard, insAll [] l⟩ ⟨hb2, by have := M.lt; omega, by have := M.lt; omega⟩ H hh
    refine bq_of a1 ?_
    exact hQ h' ns' _ rfl a2 a3 (by have := K.size; omega) fun j hj hne => (a5 j hne).trans (K.get j hj)
  | cons a r ih =>
    intro i h hd hi K hb1 hb2 hg H
    obtain ⟨h1, h2, h3⟩ := drop_cons hd
    refine X21_3_ok ?_
    unfold X21_3
    have e : (i : Int) < l.length := by omega
    have e1 : (l.map encB)[i]? = some (encB a) := by simp [h1]
    have hz := K.size
    simp (disch := (first | omega | (simp only [beq_iff_eq, sz_push, sz_put, cells_agg, cells_int, cells_bool, cells_string, cells_pointer, cells_slice, cells_map, cells_iface, cells_nilIface, cells_func, cells_float, cells_complex, cells_vs, cells_fp, one_int, one_bool, one_string, one_pointer, one_slice, one_map, one_iface, one_nilIface, one_func, one_float, one_complex, one_vs, one_fp, List.size_toArray, List.length_cons, List.length_nil, List.all_cons, List.all_nil, Bool.and_true, Bool.true_and, Bool.and_self, Nat.zero_add, Nat.add_zero, Nat.reduceAdd, Nat.reduceLeDiff]; done) | (simp only [beq_iff_eq, ne_eq, sz_push, sz_put]; omega) | assumption | fail)) only [e, S.ia, e1, encB, bin_add_3, bin_eql_3, bin_eql_32_nn, bin_eql_32_an, bin_eql_37, bin_geq_3, bin_geq_37, bin_gtr_120, bin_gtr_3, bin_gtr_37, bin_leq_3, bin_leq_37, bin_lss_120, bin_lss_3, bin_lss_37, bin_mul_3, bin_neq_120, bin_neq_3, bin_neq_37, bin_neq_4, bin_rem_3, bin_sub_3, eqs_25, bin_eql_25, bin_neq_25, eqs_48, bin_eql_48, bin_neq_48, eqs_58, bin_eql_58, un_not, max_3, min_3, conv_3_120, rng_72, rng_85, hb_2, hb_3, hb_4, hb_5, hb_6, hb_7, hb_8, hb_9, hb_10, hb_11, hb_12, hb_13, hb_14, hb_15, hb_16, hb_17, hb_18, hb_19, hb_20, hb_21, hb_22, hb_23, hb_24, hb_25, hb_26, hb_27, hb_28, hb_29, hb_30, hb_31, hb_32, hb_33, hb_34, hb_35, hb_36, hb_37, hb_38, hb_39, hb_40, hb_41, hb_42, hb_43, hb_44, hb_45, hb_46, hb_47, hb_48, hb_49, hb_50, hb_51, hb_52, hb_53, hb_54, hb_55, hb_56, hb_57, hb_58, hb_59, hb_60, hb_61, hb_62, hb_63, hb_64, hb_65, hb_66, hb_67, hb_68, hb_69, hb_70, hb_71, hb_72, hb_73, hb_74, hb_75, hb_76, hb_77, hb_78, hb_79, hb_80, hb_81, hb_82, hb_83, hb_84, hb_85, hb_86, hb_87, hb_88, hb_89, hb_90, hb_91, hb_92, hb_93, hb_94, hb_95, hb_96, hb_97, hb_98, hb_99, hb_100, hb_101, hb_102, hb_103, hb_104, hb_105, hb_106, bq_some, oq_some, get_push_e, get_push_ne, get_put_e, get_put_ne, sz_push, sz_put, rowC_cells, setC_cells, ld1_ptr, ld1_fp, ldN_ptr, ldN_fp, stN_ptr, fa_ptr, fa_fp, fd1_agg, fdN_agg, ia_vs, ia_sl, iaA_ptr, iaA_fp, lenL_vs, lenL_sl, lenL_slV, lenS_s, lenM_nil, lenM_map, lenE_map, rngE_map, opExtract_tuple, nilV_ptr, nilV_iface, nilV_func, nilV_fp, pickV_bool, wrap64, cells_agg, cells_int, cells_bool, cells_string, cells_pointer, cells_slice, cells_map, cells_iface, cells_nilIface, cells_func, cells_float, cells_complex, cells_vs, cells_fp, one_int, one_bool, one_string, one_pointer, one_slice, one_map, one_iface, one_nilIface, one_func, one_float, one_complex, one_vs, one_fp, setFrom_nil, setFrom_cons, bd_eq, bdF_nil, bdF_cons, bs_eq, new1, new2, mm1, mm2, callX_func, callP_func, condP_true, condP_false, guardQ_true, guardQ_false, guardQ_true', guardQ_false', plain_int, plain_bool, plain_string, plain_float, plain_complex, Option.bind_some, Option.bind_none, Option.map_some, Option.map_none, List.getElem?_toArray, List.getElem?_cons_zero, List.getElem?_cons_succ, List.size_toArray, List.length_cons, List.length_nil, List.extract_toArray, List.extract_eq_take_drop, List.drop_zero, List.drop_succ_cons, List.take_succ_cons, List.take_zero, List.take_nil, List.drop_nil, List.setIfInBounds_toArray, List.set_cons_zero, List.set_cons_succ, List.toList_toArray, List.all_cons, List.all_nil, Bool.and_true, Bool.true_and, Bool.and_self, Bool.false_and, Bool.and_false, Bool.or_false, Bool.false_or, Bool.or_true, Bool.true_or, Bool.not_true, Bool.not_false, if_true, if_false, and_true, true_and, false_and, and_false, eq_self, ne_eq, not_true_eq_false, not_false_eq_true, decide_true, decide_false, Bool.false_eq_true, Bool.true_eq_false, reduceIte, Nat.zero_add, Nat.add_zero, Nat.mul_one, Nat.one_mul, Nat.zero_mul, Int.toNat_natCast, List.nil_append, List.append_nil, List.cons_append, Array.toList_empty, List.getElem?_map, ge_iff_le, gt_iff_lt, decide_eq_true_eq, bne_self_eq_false, beq_self_eq_true, Int.natCast_nonneg, Nat.lt_irrefl, Nat.le_refl]
    rw [← show encB a = .agg #[.int .i64 a.1, .int .i64 a.2.1, .int .i64 a.2.2] from rfl]
    simp (disch := (first | omega | (simp only [beq_iff_eq, sz_push, sz_put, cells_agg, cells_int, cells_bool, cells_string, cells_pointer, cells_slice, cells_map, cells_iface, cells_nilIface, cells_func, cells_float, cells_complex, cells_vs, cells_fp, one_int, one_bool, one_string, one_pointer, one_slice, one_map, one_iface, one_nilIface, one_func, one_float, one_complex, one_vs, one_fp, List.size_toArray, List.length_cons, List.length_nil, List.all_cons, List.all_nil, Bool.and_true, Bool.true_and, Bool.and_self, Nat.zero_add, Nat.add_zero, Nat.reduceAdd, Nat.reduceLeDiff]; done) | (simp only [beq_iff_eq, ne_eq, sz_push, sz_put]; omega) | assumption | fail)) only [hg, bin_add_3, bin_eql_3, bin_eql_32_nn, bin_eql_32_an, bin_eql_37, bin_geq_3, bin_geq_37, bin_gtr_120, bin_gtr_3, bin_gtr_37, bin_leq_3, bin_leq_37, bin_lss_120, bin_lss_3, bin_lss_37, bin_mul_3, bin_neq_120, bin_neq_3, bin_neq_37, bin_neq_4, bin_rem_3, bin_sub_3, eqs_25, bin_eql_25, bin_neq_25, eqs_48, bin_eql_48, bin_neq_48, eqs_58, bin_eql_58, un_not, max_3, min_3, conv_3_120, rng_72, rng_85, hb_2, hb_3, hb_4, hb_5, hb_6, hb_7, hb_8, hb_9, hb_10, hb_11, hb_12, hb_13, hb_14, hb_15, hb_16, hb_17, hb_18, hb_19, hb_20, hb_21, hb_22, hb_23, hb_24, hb_25, hb_26, hb_27, hb_28, hb_29, hb_30, hb_31, hb_32, hb_33, hb_34, hb_35, hb_36, hb_37, hb_38, hb_39, hb_40, hb_41, hb_42, hb_43, hb_44, hb_45, hb_46, hb_47, hb_48, hb_49, hb_50, hb_51, hb_52, hb_53, hb_54, hb_55, hb_56, hb_57, hb_58, hb_59, hb_60, hb_61, hb_62, hb_63, hb_64, hb_65, hb_66, hb_67, hb_68, hb_69, hb_70, hb_71, hb_72, hb_73, hb_74, hb_75, hb_76, hb_77, hb_78, hb_79, hb_80, hb_81, hb_82, hb_83, hb_84, hb_85, hb_86, hb_87, hb_88, hb_89, hb_90, hb_91, hb_92, hb_93, hb_94, hb_95, hb_96, hb_97, hb_98, hb_99, hb_100, hb_101, hb_102, hb_103, hb_104, hb_105, hb_106, bq_some, oq_some, get_push_e, get_push_ne, get_put_e, get_put_ne, sz_push, sz_put, rowC_cells, setC_cells, ld1_ptr, ld1_fp, ldN_ptr, ldN_fp, stN_ptr, fa_ptr, fa_fp, fd1_agg, fdN_agg, ia_vs, ia_sl, iaA_ptr, iaA_fp, lenL_vs, lenL_sl, lenL_slV, lenS_s, lenM_nil, lenM_map, lenE_map, rngE_map, opExtract_tuple, nilV_ptr, nilV_iface, nilV_func, nilV_fp, pickV_bool, wrap64, cells_agg, cells_int, cells_bool, cells_string, cells_pointer, cells_slice, cells_map, cells_iface, cells_nilIface, cells_func, cells_float, cells_complex, cells_vs, cells_fp, one_int, one_bool, one_string, one_pointer, one_slice, one_map, one_iface, one_nilIface, one_func, one_float, one_complex, one_vs, one_fp, setFrom_nil, setFrom_cons, bd_eq, bdF_nil, bdF_cons, bs_eq, new1, new2, mm1, mm2, callX_func, callP_func, condP_true, condP_false, guardQ_true, guardQ_false, guardQ_true', guardQ_false', plain_int, plain_bool, plain_string, plain_float, plain_complex, Option.bind_some, Option.bind_none, Option.map_some, Option.map_none, List.getElem?_toArray, List.getElem?_cons_zero, List.getElem?_cons_succ, List.size_toArray, List.length_cons, List.length_nil, List.extract_toArray, List.extract_eq_take_drop, List.drop_zero, List.drop_succ_cons, List.take_succ_cons, List.take_zero, List.take_nil, List.drop_nil, List.setIfInBounds_toArray, List.set_cons_zero, List.set_cons_succ, List.toList_toArray, List.all_cons, List.all_nil, Bool.and_true, Bool.true_and, Bool.and_self, Bool.false_and, Bool.and_false, Bool.or_false, Bool.false_or, Bool.or_true, Bool.true_or, Bool.not_true, Bool.not_false, if_true, if_false, and_true, true_and, false_and, and_false, eq_self, ne_eq, not_true_eq_false, not_false_eq_true, decide_true, decide_false, Bool.false_eq_true, Bool.true_eq_false, reduceIte, Nat.zero_add, Nat.add_zero, Nat.mul_one, Nat.one_mul, Nat.zero_mul, Int.toNat_natCast, List.nil_append, List.append_nil, List.cons_append, Array.toList_empty, List.getElem?_map, ge_iff_le, gt_iff_lt, decide_eq_true_eq, bne_self_eq_false, beq_self_eq_true, Int.natCast_nonneg, Nat.lt_irrefl, Nat.le_refl]
    generalize hh3 : (AH.put (h.push _ none) h.size _) = h3
    have hsz3 : h3.size = h.size + 1 := by rw [← hh3]; simp
    have hg3 : ∀ j, j < h.size → h3.get j = h.get j := fun j hj => by rw [← hh3, get_put_ne (by omega), get_push_ne (by omega)]
    obtain ⟨h4, a1, a2, a3, a4⟩ := held_put (H.mono (hg3 kh hb2)) a
    refine bq_of a1 ?_
    refine ih (i + 1) h4 h2 (by omega) (K.trans ⟨by omega, fun j hj => (a4 j (by omega)).trans (hg3 j (by omega))⟩) (by omega) (by omega) ((a4 kb hne).trans ((hg3 kb hb1).trans hg)) ?_
    rw [List.take_add_one, h1]
    simpa [insAll, List.foldl_append] using a2

theorem beat_ok {h : AH} {km kn : Nat} {rep life : Int} {ns : List Nd} {v : Value} {l : List Blk} (n : Int) (re im : Nat) (now : Int) (S : Sl v (l.map encB)) (hl : l.length ≤ 1048576) (M : Mgr h km kn rep life ns) :
    HC Try.prog 21 [.pointer (some ⟨km, 0, none⟩), .int .i64 n, .complex .f64 re im, .int .i64 now, v].toArray h fun r h' => r = .ret (.tuple #[]) ∧
      ∃ ns', Mgr h' km kn rep life ns' ∧ ns'.map Nd.v = put (ns.map Nd.v) ⟨n, re, im, mom now 0, insAll [] l⟩ ∧ h.size ≤ h'.size ∧ ∀ j, j < h.size → j ≠ kn → h'.get j = h.get j := by
  refine X21_ok ?_
  unfold X21
  simp (disch := (first | omega | (simp only [beq_iff_eq, sz_push, sz_put, cells_agg, cells_int, cells_bool, cells_string, cells_pointer, cells_slice, cells_map, cells_iface, cells_nilIface, cells_func, cells_float, cells_complex, cells_vs, cells_fp, one_int, one_bool, one_string, one_pointer, one_slice, one_map, one_iface, one_nilIface, one_func, one_float, one_complex, one_vs, one_fp, List.size_toArray, List.length_cons, List.length_nil, List.all_cons, List.all_nil, Bool.and_true, Bool.true_and, Bool.and_self, Nat.zero_add, Nat.add_zero, Nat.reduceAdd, Nat.reduceLeDiff]; done) | (simp only [beq_iff_eq, ne_eq, sz_push, sz_put]; omega) | assumption | fail)) only [bin_add_3, bin_eql_3, bin_eql_32_nn, bin_eql_32_an, bin_eql_37, bin_geq_3, bin_geq_37, bin_gtr_120, bin_gtr_3, bin_gtr_37, bin_leq_3, bin_leq_37, bin_lss_120, bin_lss_3, bin_lss_37, bin_mul_3, bin_neq_120, bin_neq_3, bin_neq_37, bin_neq_4, bin_rem_3, bin_sub_3, eqs_25, bin_eql_25, bin_neq_25, eqs_48, bin_eql_48, bin_neq_48, eqs_58, bin_eql_58, un_not, max_3, min_3, conv_3_120, rng_72, rng_85, hb_2, hb_3, hb_4, hb_5, hb_6, hb_7, hb_8, hb_9, hb_10, hb_11, hb_12, hb_13, hb_14, hb_15, hb_16, hb_17, hb_18, hb_19, hb_20, hb_21, hb_22, hb_23, hb_24, hb_25, hb_26, hb_27, hb_28, hb_29, hb_30, hb_31, hb_32, hb_33, hb_34, hb_35, hb_36, hb_37, hb_38, hb_39, hb_40, hb_41, hb_42, hb_43, hb_44, hb_45, hb_46, hb_47, hb_48, hb_49, hb_50, hb_51, hb_52, hb_53, hb_54, hb_55, hb_56, hb_57, hb_58, hb_59, hb_60, hb_61, hb_62, hb_63, hb_64, hb_65, hb_66, hb_67, hb_68, hb_69, hb_70, hb_71, hb_72, hb_73, hb_74, hb_75, hb_76, hb_77, hb_78, hb_79, hb_80, hb_81, hb_82, hb_83, hb_84, hb_85, hb_86, hb_87, hb_88, hb_89, hb_90, hb_91, hb_92, hb_93, hb_94, hb_95, hb_96, hb_97, hb_98, hb_99, hb_100, hb_101, hb_102, hb_103, hb_104, hb_105, hb_106, bq_some, oq_some, get_push_e, get_push_ne, get_put_e, get_put_ne, sz_push, sz_put, rowC_cells, setC_cells, ld1_ptr, ld1_fp, ldN_ptr, ldN_fp, stN_ptr, fa_ptr, fa_fp, fd1_agg, fdN_agg, ia_vs, ia_sl, iaA_ptr, iaA_fp, lenL_vs, lenL_sl, lenL_slV, lenS_s, lenM_nil, lenM_map, lenE_map, rngE_map, opExtract_tuple, nilV_ptr, nilV_iface, nilV_func, nilV_fp, pickV_bool, wrap64, cells_agg, cells_int, cells_bool, cells_string, cells_pointer, cells_slice, cells_map, cells_iface, cells_nilIface, cells_func, cells_float, cells_complex, cells_vs, cells_fp, one_int, one_bool, one_string, one_pointer, one_slice, one_map, one_iface, one_nilIface, one_func, one_float, one_complex, one_vs, one_fp, setFrom_nil, setFrom_cons, bd_eq, bdF_nil, bdF_cons, bs_eq, new1, new2, mm1, mm2, callX_func, callP_func, condP_true, condP_false, guardQ_true, guardQ_false, guardQ_true', guardQ_false', plain_int, plain_bool, plain_string, plain_float, plain_complex, Option.bind_some, Option.bind_none, Option.map_some, Option.map_none, List.getElem?_toArray, List.getElem?_cons_zero, List.getElem?_cons_succ, List.size_toArray, List.length_cons, List.length_nil, List.extract_toArray, List.extract_eq_take_drop, List.drop_zero, List.drop_succ_cons, List.take_succ_cons, List.take_zero, List.take_nil, List.drop_nil, List.setIfInBounds_toArray, List.set_cons_zero, List.set_cons_succ, List.toList_toArray, List.all_cons, List.all_nil, Bool.and_true, Bool.true_and, Bool.and_self, Bool.false_and, Bool.and_false, Bool.or_false, Bool.false_or, Bool.or_true, Bool.true_or, Bool.not_true, Bool.not_false, if_true, if_false, and_true, true_and, false_and, and_false, eq_self, ne_eq, not_true_eq_false, not_false_eq_true, decide_true, decide_false, Bool.false_eq_true, Bool.true_eq_false, reduceIte, Nat.zero_add, Nat.add_zero, Nat.mul_one, Nat.one_mul, Nat.zero_mul, Int.toNat_natCast, List.nil_append, List.append_nil, List.cons_append, Array.toList_empty, List.getElem?_map, ge_iff_le, gt_iff_lt, decide_eq_true_eq, bne_self_eq_false, beq_self_eq_true, Int.natCast_nonneg, Nat.lt_irrefl, Nat.le_refl]
  refine HC.exact (moment_ok _ _ _) ?_
  have hm := mom_bd now 0 (by omega)
  have e : (l.map encB).length = l.length := by simp
  simp (disch := (first | omega | (simp only [beq_iff_eq, sz_push, sz_put, cells_agg, cells_int, cells_bool, cells_string, cells_pointer, cells_slice, cells_map, cells_iface, cells_nilIface, cells_func, cells_float, cells_complex, cells_vs, cells_fp, one_int, one_bool, one_string, one_pointer, one_slice, one_map, one_iface, one_nilIface, one_func, one_float, one_complex, one_vs, one_fp, List.size_toArray, List.length_cons, List.length_nil, List.all_cons, List.all_nil, Bool.and_true, Bool.true_and, Bool.and_self, Nat.zero_add, Nat.add_zero, Nat.reduceAdd, Nat.reduceLeDiff]; done) | (simp only [beq_iff_eq, ne_eq, sz_push, sz_put]; omega) | assumption | fail)) only [S.len, e, bin_add_3, bin_eql_3, bin_eql_32_nn, bin_eql_32_an, bin_eql_37, bin_geq_3, bin_geq_37, bin_gtr_120, bin_gtr_3, bin_gtr_37, bin_leq_3, bin_leq_37, bin_lss_120, bin_lss_3, bin_lss_37, bin_mul_3, bin_neq_120, bin_neq_3, bin_neq_37, bin_neq_4, bin_rem_3, bin_sub_3, eqs_25, bin_eql_25, bin_neq_25, eqs_48, bin_eql_48, bin_neq_48, eqs_58, bin_eql_58, un_not, max_3, min_3, conv_3_120, rng_72, rng_85, hb_2, hb_3, hb_4, hb_5, hb_6, hb_7, hb_8, hb_9, hb_10, hb_11, hb_12, hb_13, hb_14, hb_15, hb_16, hb_17, hb_18, hb_19, hb_20, hb_21, hb_22, hb_23, hb_24, hb_25, hb_26, hb_27, hb_28, hb_29, hb_30, hb_31, hb_32, hb_33, hb_34, hb_35, hb_36, hb_37, hb_38, hb_39, hb_40, hb_41, hb_42, hb_43, hb_44, hb_45, hb_46, hb_47, hb_48, hb_49, hb_50, hb_51, hb_52, hb_53, hb_54, hb_55, hb_56, hb_57, hb_58, hb_59, hb_60, hb_61, hb_62, hb_63, hb_64, hb_65, hb_66, hb_67, hb_68, hb_69, hb_70, hb_71, hb_72, hb_73, hb_74, hb_75, hb_76, hb_77, hb_78, hb_79, hb_80, hb_81, hb_82, hb_83, hb_84, hb_85, hb_86, hb_87, hb_88, hb_89, hb_90, hb_91, hb_92, hb_93, hb_94, hb_95, hb_96, hb_97, hb_98, hb_99, hb_100, hb_101, hb_102, hb_103, hb_104, hb_105, hb_106, bq_some, oq_some, get_push_e, get_push_ne, get_put_e, get_put_ne, sz_push, sz_put, rowC_cells, setC_cells, ld1_ptr, ld1_fp, ldN_ptr, ldN_fp, stN_ptr, fa_ptr, fa_fp, fd1_agg, fdN_agg, ia_vs, ia_sl, iaA_ptr, iaA_fp, lenL_vs, lenL_sl, lenL_slV, lenS_s, lenM_nil, lenM_map, lenE_map, rngE_map, opExtract_tuple, nilV_ptr, nilV_iface, nilV_func, nilV_fp, pickV_bool, wrap64, cells_agg, cells_int, cells_bool, cells_string, cells_pointer, cells_slice, cells_map, cells_iface, cells_nilIface, cells_func, cells_float, cells_complex, cells_vs, cells_fp, one_int, one_bool, one_string, one_pointer, one_slice, one_map, one_iface, one_nilIface, one_func, one_float, one_complex, one_vs, one_fp, setFrom_nil, setFrom_cons, bd_eq, bdF_nil, bdF_cons, bs_eq, new1, new2, mm1, mm2, callX_func, callP_func, condP_true, condP_false, guardQ_true, guardQ_false, guardQ_true', guardQ_false', plain_int, plain_bool, plain_string, plain_float, plain_complex, Option.bind_some, Option.bind_none, Option.map_some, Option.map_none, List.getElem?_toArray, List.getElem?_cons_zero, List.getElem?_cons_succ, List.size_toArray, List.length_cons, List.length_nil, List.extract_toArray, List.extract_eq_take_drop, List.drop_zero, List.drop_succ_cons, List.take_succ_cons, List.take_zero, List.take_nil, List.drop_nil, List.setIfInBounds_toArray, List.set_cons_zero, List.set_cons_succ, List.toList_toArray, List.all_cons, List.all_nil, Bool.and_true, Bool.true_and, Bool.and_self, Bool.false_and, Bool.and_false, Bool.or_false, Bool.false_or, Bool.or_true, Bool.true_or, Bool.not_true, Bool.not_false, if_true, if_false, and_true, true_and, false_and, and_false, eq_self, ne_eq, not_true_eq_false, not_false_eq_true, decide_true, decide_false, Bool.false_eq_true, Bool.true_eq_false, reduceIte, Nat.zero_add, Nat.add_zero, Nat.mul_one, Nat.one_mul, Nat.zero_mul, Int.toNat_natCast, List.nil_append, List.append_nil, List.cons_append, Array.toList_empty, List.getElem?_map, ge_iff_le, gt_iff_lt, decide_eq_true_eq, bne_self_eq_false, beq_self_eq_true, Int.natCast_nonneg, Nat.lt_irrefl, Nat.le_refl]
  refine beat_loop (h0 := h) (heard := mom now 0) (re := re) (im := im) (n := n) (kb := h.size + 1) (kh := h.size) S hl ⟨hm.1, hm.2.2⟩ (by omega) (by omega) (by omega) M (fun h' ns' held e1 e2 e3 e4 e5 => ⟨rfl, ns', e2, by rw [e3, e1], e4, e5⟩) l 0 _ rfl (by omega) ?_ ?_ ?_ ?_ ?_
  · exact (((Kp.refl _ _).push _ _ (Nat.le_refl _)).push _ _ (by simp)).put _ _ (by omega)
  · simp
  · simp; omega
  · simp (disch := (first | omega | (simp only [beq_iff_eq, sz_push, sz_put, cells_agg, cells_int, cells_bool, cells_string, cells_pointer, cells_slice, cells_map, cells_iface, cells_nilIface, cells_func, cells_float, cells_complex, cells_vs, cells_fp, one_int, one_bool, one_string, one_pointer, one_slice, one_map, one_iface, one_nilIface, one_func, one_float, one_complex, one_vs, one_fp, List.size_toArray, List.length_cons, List.length_nil, List.all_cons, List.all_nil, Bool.and_true, Bool.true_and, Bool.and_self, Nat.zero_add, Nat.add_zero, Nat.reduceAdd, Nat.reduceLeDiff]; done) | (simp only [beq_iff_eq, ne_eq, sz_push, sz_put]; omega) | assumption | fail)) only [bin_add_3, bin_eql_3, bin_eql_32_nn, bin_eql_32_an, bin_eql_37, bin_geq_3, bin_geq_37, bin_gtr_120, bin_gtr_3, bin_gtr_37, bin_leq_3, bin_leq_37, bin_lss_120, bin_lss_3, bin_lss_37, bin_mul_3, bin_neq_120, bin_neq_3, bin_neq_37, bin_neq_4, bin_rem_3, bin_sub_3, eqs_25, bin_eql_25, bin_neq_25, eqs_48, bin_eql_48, bin_neq_48, eqs_58, bin_eql_58, un_not, max_3, min_3, conv_3_120, rng_72, rng_85, hb_2, hb_3, hb_4, hb_5, hb_6, hb_7, hb_8, hb_9, hb_10, hb_11, hb_12, hb_13, hb_14, hb_15, hb_16, hb_17, hb_18, hb_19, hb_20, hb_21, hb_22, hb_23, hb_24, hb_25, hb_26, hb_27, hb_28, hb_29, hb_30, hb_31, hb_32, hb_33, hb_34, hb_35, hb_36, hb_37, hb_38, hb_39, hb_40, hb_41, hb_42, hb_43, hb_44, hb_45, hb_46, hb_47, hb_48, hb_49, hb_50, hb_51, hb_52, hb_53, hb_54, hb_55, hb_56, hb_57, hb_58, hb_59, hb_60, hb_61, hb_62, hb_63, hb_64, hb_65, hb_66, hb_67, hb_68, hb_69, hb_70, hb_71, hb_72, hb_73, hb_74, hb_75, hb_76, hb_77, hb_78, hb_79, hb_80, hb_81, hb_82, hb_83, hb_84, hb_85, hb_86, hb_87, hb_88, hb_89, hb_90, hb_91, hb_92, hb_93, hb_94, hb_95, hb_96, hb_97, hb_98, hb_99, hb_100, hb_101, hb_102, hb_103, hb_104, hb_105, hb_106, bq_some, oq_some, get_push_e, get_push_ne, get_put_e, get_put_ne, sz_push, sz_put, rowC_cells, setC_cells, ld1_ptr, ld1_fp, ldN_ptr, ldN_fp, stN_ptr, fa_ptr, fa_fp, fd1_agg, fdN_agg, ia_vs, ia_sl, iaA_ptr, iaA_fp, lenL_vs, lenL_sl, lenL_slV, lenS_s, lenM_nil, lenM_map, lenE_map, rngE_map, opExtract_tuple, nilV_ptr, nilV_iface, nilV_func, nilV_fp, pickV_bool, wrap64, cells_agg, cells_int, cells_bool, cells_string, cells_pointer, cells_slice, cells_map, cells_iface, cells_nilIface, cells_func, cells_float, cells_complex, cells_vs, cells_fp, one_int, one_bool, one_string, one_pointer, one_slice, one_map, one_iface, one_nilIface, one_func, one_float, one_complex, one_vs, one_fp, setFrom_nil, setFrom_cons, bd_eq, bdF_nil, bdF_cons, bs_eq, new1, new2, mm1, mm2, callX_func, callP_func, condP_true, condP_false, guardQ_true, guardQ_false, guardQ_true', guardQ_false', plain_int, plain_bool, plain_string, plain_float, plain_complex, Option.bind_some, Option.bind_none, Option.map_some, Option.map_none, List.getElem?_toArray, List.getElem?_cons_zero, List.getElem?_cons_succ, List.size_toArray, List.length_cons, List.length_nil, List.extract_toArray, List.extract_eq_take_drop, List.drop_zero, List.drop_succ_cons, List.take_succ_cons, List.take_zero, List.take_nil, List.drop_nil, List.setIfInBounds_toArray, List.set_cons_zero, List.set_cons_succ, List.toList_toArray, List.all_cons, List.all_nil, Bool.and_true, Bool.true_and, Bool.and_self, Bool.false_and, Bool.and_false, Bool.or_false, Bool.false_or, Bool.or_true, Bool.true_or, Bool.not_true, Bool.not_false, if_true, if_false, and_true, true_and, false_and, and_false, eq_self, ne_eq, not_true_eq_false, not_false_eq_true, decide_true, decide_false, Bool.false_eq_true, Bool.true_eq_false, reduceIte, Nat.zero_add, Nat.add_zero, Nat.mul_one, Nat.one_mul, Nat.zero_mul, Int.toNat_natCast, List.nil_append, List.append_nil, List.cons_append, Array.toList_empty, List.getElem?_map, ge_iff_le, gt_iff_lt, decide_eq_true_eq, bne_self_eq_false, beq_self_eq_true, Int.natCast_nonneg, Nat.lt_irrefl, Nat.le_refl]
  · refine ⟨⟨[], 0, ?_, fun b hb => (by cases hb), List.nodup_nil, rfl⟩, List.nodup_nil⟩
    simp (disch := (first | omega | (simp only [beq_iff_eq, sz_push, sz_put, cells_agg, cells_int, cells_bool, cells_string, cells_pointer, cells_slice, cells_map, cells_iface, cells_nilIface, cells_func, cells_float, cells_complex, cells_vs, cells_fp, one_int, one_bool, one_string, one_pointer, one_slice, one_map, one_iface, one_nilIface, one_func, one_float, one_complex, one_vs, one_fp, List.size_toArray, List.length_cons, List.length_nil, List.all_cons, List.all_nil, Bool.and_true, Bool.true_and, Bool.and_self, Nat.zero_add, Nat.add_zero, Nat.reduceAdd, Nat.reduceLeDiff]; done) | (simp only [beq_iff_eq, ne_eq, sz_push, sz_put]; omega) | assumption | fail)) only [bin_add_3, bin_eql_3, bin_eql_32_nn, bin_eql_32_an, bin_eql_37, bin_geq_3, bin_geq_37, bin_gtr_120, bin_gtr_3, bin_gtr_37, bin_leq_3, bin_leq_37, bin_lss_120, bin_lss_3, bin_lss_37, bin_mul_3, bin_neq_120, bin_neq_3, bin_neq_37, bin_neq_4, bin_rem_3, bin_sub_3, eqs_25, bin_eql_25, bin_neq_25, eqs_48, bin_eql_48, bin_neq_48, eqs_58, bin_eql_58, un_not, max_3, min_3, conv_3_120, rng_72, rng_85, hb_2, hb_3, hb_4, hb_5, hb_6, hb_7, hb_8, hb_9, hb_10, hb_11, hb_12, hb_13, hb_14, hb_15, hb_16, hb_17, hb_18, hb_19, hb_20, hb_21, hb_22, hb_23, hb_24, hb_25, hb_26, hb_27, hb_28, hb_29, hb_30, hb_31, hb_32, hb_33, hb_34, hb_35, hb_36, hb_37, hb_38, hb_39, hb_40, hb_41, hb_42, hb_43, hb_44, hb_45, hb_46, hb_47, hb_48, hb_49, hb_50, hb_51, hb_52, hb_53, hb_54, hb_55, hb_56, hb_57, hb_58, hb_59, hb_60, hb_61, hb_62, hb_63, hb_64, hb_65, hb_66, hb_67, hb_68, hb_69, hb_70, hb_71, hb_72, hb_73, hb_74, hb_75, hb_76, hb_77, hb_78, hb_79, hb_80, hb_81, hb_82, hb_83, hb_84, hb_85, hb_86, hb_87, hb_88, hb_89, hb_90, hb_91, hb_92, hb_93, hb_94, hb_95, hb_96, hb_97, hb_98, hb_99, hb_100, hb_101, hb_102, hb_103, hb_104, hb_105, hb_106, bq_some, oq_some, get_push_e, get_push_ne, get_put_e, get_put_ne, sz_push, sz_put, rowC_cells, setC_cells, ld1_ptr, ld1_fp, ldN_ptr, ldN_fp, stN_ptr, fa_ptr, fa_fp, fd1_agg, fdN_agg, ia_vs, ia_sl, iaA_ptr, iaA_fp, lenL_vs, lenL_sl, lenL_slV, lenS_s, lenM_nil, lenM_map, lenE_map, rngE_map, opExtract_tuple, nilV_ptr, nilV_iface, nilV_func, nilV_fp, pickV_bool, wrap64, cells_agg, cells_int, cells_bool, cells_string, cells_pointer, cells_slice, cells_map, cells_iface, cells_nilIface, cells_func, cells_float, cells_complex, cells_vs, cells_fp, one_int, one_bool, one_string, one_pointer, one_slice, one_map, one_iface, one_nilIface, one_func, one_float, one_complex, one_vs, one_fp, setFrom_nil, setFrom_cons, bd_eq, bdF_nil, bdF_cons, bs_eq, new1, new2, mm1, mm2, callX_func, callP_func, condP_true, condP_false, guardQ_true, guardQ_false, guardQ_true', guardQ_false', plain_int, plain_bool, plain_string, plain_float, plain_complex, Option.bind_some, Option.bind_none, Option.map_some, Option.map_none, List.getElem?_toArray, List.getElem?_cons_zero, List.getElem?_cons_succ, List.size_toArray, List.length_cons, List.length_nil, List.extract_toArray, List.extract_eq_take_drop, List.drop_zero, List.drop_succ_cons, List.take_succ_cons, List.take_zero, List.take_nil, List.drop_nil, List.setIfInBounds_toArray, List.set_cons_zero, List.set_cons_succ, List.toList_toArray, List.all_cons, List.all_nil, Bool.and_true, Bool.true_and, Bool.and_self, Bool.false_and, Bool.and_false, Bool.or_false, Bool.false_or, Bool.or_true, Bool.true_or, Bool.not_true, Bool.not_false, if_true, if_false, and_true, true_and, false_and, and_false, eq_self, ne_eq, not_true_eq_false, not_false_eq_true, decide_true, decide_false, Bool.false_eq_true, Bool.true_eq_false, reduceIte, Nat.zero_add, Nat.add_zero, Nat.mul_one, Nat.one_mul, Nat.zero_mul, Int.toNat_natCast, List.nil_append, List.append_nil, List.cons_append, Array.toList_empty, List.getElem?_map, ge_iff_le, gt_iff_lt, decide_eq_true_eq, bne_self_eq_false, beq_self_eq_true, Int.natCast_nonneg, Nat.lt_irrefl, Nat.le_refl]
    simp
theorem beat_nil {n now : Int} {re im : Nat} {v : Value} {h : AH} : Ex Try.prog 21 [.pointer none, .int .i64 n, .complex .f64 re im, .int .i64 now, v].toArray h (.tuple #[]) h := by
  refine X21_ok ?_
  unfold X21
  simp (disch := (first | omega | (simp only [beq_iff_eq, sz_push, sz_put, cells_agg, cells_int, cells_bool, cells_string, cells_pointer, cells_slice, cells_map, cells_iface, cells_nilIface, cells_func, cells_float, cells_complex, cells_vs, cells_fp, one_int, one_bool, one_string, one_pointer, one_slice, one_map, one_iface, one_nilIface, one_func, one_float, one_complex, one_vs, one_fp, List.size_toArray, List.length_cons, List.length_nil, List.all_cons, List.all_nil, Bool.and_true, Bool.true_and, Bool.and_self, Nat.zero_add, Nat.add_zero, Nat.reduceAdd, Nat.reduceLeDiff]; done) | (simp only [beq_iff_eq, ne_eq, sz_push, sz_put]; omega) | assumption | fail)) only [bin_add_3, bin_eql_3, bin_eql_32_nn, bin_eql_32_an, bin_eql_37, bin_geq_3, bin_geq_37, bin_gtr_120, bin_gtr_3, bin_gtr_37, bin_leq_3, bin_leq_37, bin_lss_120, bin_lss_3, bin_lss_37, bin_mul_3, bin_neq_120, bin_neq_3, bin_neq_37, bin_neq_4, bin_rem_3, bin_sub_3, eqs_25, bin_eql_25, bin_neq_25, eqs_48, bin_eql_48, bin_neq_48, eqs_58, bin_eql_58, un_not, max_3, min_3, conv_3_120, rng_72, rng_85, hb_2, hb_3, hb_4, hb_5, hb_6, hb_7, hb_8, hb_9, hb_10, hb_11, hb_12, hb_13, hb_14, hb_15, hb_16, hb_17, hb_18, hb_19, hb_20, hb_21, hb_22, hb_23, hb_24, hb_25, hb_26, hb_27, hb_28, hb_29, hb_30, hb_31, hb_32, hb_33, hb_34, hb_35, hb_36, hb_37, hb_38, hb_39, hb_40, hb_41, hb_42, hb_43, hb_44, hb_45, hb_46, hb_47, hb_48, hb_49, hb_50, hb_51, hb_52, hb_53, hb_54, hb_55, hb_56, hb_57, hb_58, hb_59, hb_60, hb_61, hb_62, hb_63, hb_64, hb_65, hb_66, hb_67, hb_68, hb_69, hb_70, hb_71, hb_72, hb_73, hb_74, hb_75, hb_76, hb_77, hb_78, hb_79, hb_80, hb_81, hb_82, hb_83, hb_84, hb_85, hb_86, hb_87, hb_88, hb_89, hb_90, hb_91, hb_92, hb_93, hb_94, hb_95, hb_96, hb_97, hb_98, hb_99, hb_100, hb_101, hb_102, hb_103, hb_104, hb_105, hb_106, bq_some, oq_some, get_push_e, get_push_ne, get_put_e, get_put_ne, sz_push, sz_put, rowC_cells, setC_cells, ld1_ptr, ld1_fp, ldN_ptr, ldN_fp, stN_ptr, fa_ptr, fa_fp, fd1_agg, fdN_agg, ia_vs, ia_sl, iaA_ptr, iaA_fp, lenL_vs, lenL_sl, lenL_slV, lenS_s, lenM_nil, lenM_map, lenE_map, rngE_map, opExtract_tuple, nilV_ptr, nilV_iface, nilV_func, nilV_fp, pickV_bool, wrap64, cells_agg, cells_int, cells_bool, cells_string, cells_pointer, cells_slice, cells_map, cells_iface, cells_nilIface, cells_func, cells_float, cells_complex, cells_vs, cells_fp, one_int, one_bool, one_string, one_pointer, one_slice, one_map, one_iface, one_nilIface, one_func, one_float, one_complex, one_vs, one_fp, setFrom_nil, setFrom_cons, bd_eq, bdF_nil, bdF_cons, bs_eq, new1, new2, mm1, mm2, callX_func, callP_func, condP_true, condP_false, guardQ_true, guardQ_false, guardQ_true', guardQ_false', plain_int, plain_bool, plain_string, plain_float, plain_complex, Option.bind_some, Option.bind_none, Option.map_some, Option.map_none, List.getElem?_toArray, List.getElem?_cons_zero, List.getElem?_cons_succ, List.size_toArray, List.length_cons, List.length_nil, List.extract_toArray, List.extract_eq_take_drop, List.drop_zero, List.drop_succ_cons, List.take_succ_cons, List.take_zero, List.take_nil, List.drop_nil, List.setIfInBounds_toArray, List.set_cons_zero, List.set_cons_succ, List.toList_toArray, List.all_cons, List.all_nil, Bool.and_true, Bool.true_and, Bool.and_self, Bool.false_and, Bool.and_false, Bool.or_false, Bool.false_or, Bool.or_true, Bool.true_or, Bool.not_true, Bool.not_false, if_true, if_false, and_true, true_and, false_and, and_false, eq_self, ne_eq, not_true_eq_false, not_false_eq_true, decide_true, decide_false, Bool.false_eq_true, Bool.true_eq_false, reduceIte, Nat.zero_add, Nat.add_zero, Nat.mul_one, Nat.one_mul, Nat.zero_mul, Int.toNat_natCast, List.nil_append, List.append_nil, List.cons_append, Array.toList_empty, List.getElem?_map, ge_iff_le, gt_iff_lt, decide_eq_true_eq, bne_self_eq_false, beq_self_eq_true, Int.natCast_nonneg, Nat.lt_irrefl, Nat.le_refl]
  first | done | rfl | exact ⟨rfl, rfl⟩ | trivial
end Go.Proofs.Ythjdohbkadpnjaa.B

/-
  Texts of mine, packed: PlainD, StoreO, LayS. No condition beside those of the single theorems.
-/
import Derived.Test.YtmbfpbgkchncgaaGreatK19
import Derived.Test.YtmbfpbgkchncgaaGreatK6
import Derived.Test.YtmbfpbgkchncgaaGreatK11
import Derived.Test.YtmbfpbgkchncgaaGreatK22
import Derived.Test.YtmbfpbgkchncgaaGreatK3
import Derived.Test.YtmbfpbgkchncgaaGreatK12
set_option linter.unusedSimpArgs false
set_option linter.unusedVariables false
set_option maxHeartbeats 16000000
set_option maxRecDepth 100000
namespace Go.Proofs.YtmbfpbgkchncgaaGreat
open Go.RowKit
theorem plain_first {p : DLodPlan} {r : DLodRef} (hn : r.fName.size ≤ maxLen) (h : lodChain p r ≠ []) : (lodChain p r)[0]? = some r ∧ (lodChain p r).length ≤ 6 ∧ lodFind p r.fKeeper r.fName = (r, 1) := by
 obtain ⟨_, hr, hf⟩ := plain_chain hn h
 obtain ⟨t, ht⟩ := chainF_head hr
 exact ⟨by rw [ht]; rfl, chainF_len hr, hf⟩

theorem there_below {w w' : World} {b n : Nat} (h : Below w.heap.size w w') (hb : b < w.heap.size) (ht : w.there b 0 n) : w'.there b 0 n := fun j hj => by
 obtain ⟨h1, h2⟩ := ht j hj
 exact ⟨by rw [qae (h.block b hb)]; exact h1, (qai (h.block b hb)).trans h2⟩
theorem World.there.setCells {w : World} {b : Nat} {cs : List Value} {e n : Nat} (h : w.there e 0 n) : (w.setCells b 0 cs).there e 0 n := fun j hj => ⟨World.isSome_setCells b cs _ w _ (h j hj).1, by rw [World.frozen?_setCells]; exact (h j hj).2⟩
theorem wp_store_rowO {P : Program} {op : Oper} {a : Act} {w : World} {K : Act → World → Prop} {Q : Exit → Act → World → Prop} (ty : TypeId) (x y : Operand) (ho : op.op = .store ty x y)
  (b : Nat) (cs : List Value) (hx : a.eval x = .pointer (some ⟨b, 0, none⟩)) (hy : a.eval y = .agg cs.toArray)
  (ht : w.there b 0 cs.length) (hi : (P.info? ty).map (·.size) = some cs.length) (h1 : ∀ v ∈ cs, v.oneCell' = true)
  (h : ∀ w', w'.rangeAt b 0 cs → w'.there b 0 cs.length → Turn b w w' → (∀ e n, w.there e 0 n → w'.there e 0 n) → (∀ c t, TypeAt w c t → TypeAt w' c t) → K (a.put op.dst undef) w') : op.wp P a w K Q := by
 refine wp_store_mid ty x y ho b 0 cs.toArray hx hy (by simpa using ht) (by simpa using hi) (all_oneCell_toArray h1) ?_
 exact h _ (World.rangeAt_setCells_same w b 0 cs ht) (World.there.setCells ht) (Turn.setCells b _ 0 w) (fun e n he => World.there.setCells he) (fun c t hT => TypeAt.setCells _ _ hT)
def rwG (j0 j : Nat) (w w' : World) : Prop := (j ≠ j0 ∧ Below w.heap.size w w') ∨ (j = j0 ∧ w.heap.size ≤ w'.heap.size ∧ (∀ e n, w.there e 0 n → w'.there e 0 n) ∧ ∀ c t, TypeAt w c t → TypeAt w' c t)
theorem rw_rfl (j0 j : Nat) (w : World) : rwG j0 j w w := by
 by_cases h : j = j0
 ·exact Or.inr ⟨h, Nat.le_refl _, fun _ _ h => h, fun _ _ h => h⟩
 ·exact Or.inl ⟨h, Below.refl _ _⟩
theorem rw_of {j0 j : Nat} {w w' : World} (hj : j ≠ j0) (h : Below w.heap.size w w') : rwG j0 j w w' := Or.inl ⟨hj, h⟩
theorem rw_store {j0 : Nat} {w w' : World} (hs : w.heap.size ≤ w'.heap.size) (h : ∀ e n, w.there e 0 n → w'.there e 0 n) (h2 : ∀ c t, TypeAt w c t → TypeAt w' c t) : rwG j0 j0 w w' := Or.inr ⟨rfl, hs, h, h2⟩
theorem rw_size {j0 j : Nat} {w w' : World} (h : rwG j0 j w w') : w.heap.size ≤ w'.heap.size := by
 rcases h with ⟨_, h⟩ | ⟨_, h, _⟩
 ·exact h.size
 ·exact h
theorem rw_there {j0 j e n : Nat} {w w' : World} (h : rwG j0 j w w') (he : e < w.heap.size) (ht : w.there e 0 n) : w'.there e 0 n := by
 rcases h with ⟨_, h⟩ | ⟨_, _, h, _⟩
 ·exact there_below h he ht
 ·exact h e n ht
theorem rw_type {j0 j e : Nat} {t : TypeId} {w w' : World} (h : rwG j0 j w w') (he : e < w.heap.size) (ht : TypeAt w e t) : TypeAt w' e t := by
 rcases h with ⟨_, h⟩ | ⟨_, _, _, h⟩
 ·exact ht.below h he
 ·exact h e t ht

def rLnkField : RowRel DLnkField := fun lo w cs x => cs = [.int .i64 x.fOf.fKeeper, .string x.fOf.fName, .int .i64 x.fAt, .int .i64 x.fKind.fKind, .string x.fKind.fName] ∧ x.fOf.fName.size ≤ maxLen ∧ x.fKind.fName.size ≤ maxLen
theorem rLnkField_good : Good rLnkField := ⟨fun _ _ _ _ _ _ h => h, fun _ _ _ _ _ _ h => h⟩
theorem qal {E : TypeId → Prop} : GoodT E rLnkField := ⟨fun _ _ _ _ _ _ h => h, fun _ _ _ _ _ _ h => h⟩
theorem rLnkField_one : ∀ lo w cs x, rLnkField lo w cs x → ∀ u ∈ cs, u.oneCell' = true := by
 intro lo w cs x h u hu
 obtain ⟨rfl, _⟩ := h
 simp at hu
 rcases hu with rfl | rfl | rfl | rfl | rfl <;> rfl
theorem sty_Lfd : STy 53 64 5 (.agg #[.int .i64 0, .string ⟨#[]⟩, .int .i64 0, .int .i64 0, .string ⟨#[]⟩]) 56 := ⟨Tryz.underlying53, by kernel_rfl, rfl, by decide, by decide⟩
theorem lay_len {p : DLodPlan} : ∀ {rs : List DLodRef}, (∀ x ∈ rs, (loOfP p x).fFields.length ≤ 3) → (layR p rs).length ≤ 3 * rs.length
 | [], _ => by simp [layR]
 | r :: t, h => by
   have h1 := lay_len (rs := t) fun x hx => h x (List.mem_cons_of_mem _ hx)
   have h2 := h r (List.mem_cons_self ..)
   simp only [layR, List.length_append, ownLay_len, List.length_cons]
   omega
theorem cls_fields {c : DClsClass} (h : clsOk c = true) : c.fFields.length ≤ 3 := by
 unfold clsOk at h
 simp only [Bool.and_eq_true, decide_eq_true_eq] at h
 exact h.1.1.1.2
theorem ownLay_snoc {p : DLodPlan} {r : DLodRef} {n j : Nat} {f : DClsField} (h : (loOfP p r).fFields[j]? = some f) : (ownLay p r n).take (j + 1) = (ownLay p r n).take j ++ [⟨r, ((n + j : Nat) : Int), f.fKind⟩] := by
 rw [List.take_add_one, ownLay_at h]; rfl
theorem layR_drop {p : DLodPlan} {rs : List DLodRef} {k : Nat} {x : DLodRef} (h : rs[k]? = some x) : layR p (rs.drop k) = layR p (rs.drop (k + 1)) ++ ownLay p x (layR p (rs.drop (k + 1))).length := by
 rw [List.drop_eq_getElem?_toList_append, h]; rfl
def yF (vs : Nat → Value) (B : Nat) (W0 : World) (pv : Value) (g n cap k : Nat) (xk : Int) (xn : ByteArray) (c : DClsClass) : Nat → Value → World → Prop
 | 0, v, w => v = .agg #[pv]
 | 1, v, w => v = .slice (some ⟨g, 0, none⟩) n cap
 | 2, v, w => v = .int .i64 (k : Int)
 | 3, v, w => v = .pointer (some ⟨g, k * 2, none⟩)
 | 4, v, w => v = .agg #[.int .i64 xk, .string xn]
 | 5, v, w => ∃ (a1 : Option Addr) (l1 c1 : Nat) (a2 : Option Addr) (l2 c2 : Nat), v = .agg ([.string c.fName, .string c.fSuper, .slice a1 l1 c1, .slice a2 l2 c2] : List Value).toArray ∧ Sl 3 rClsField 0 W0 (.slice a1 l1 c1) c.fFields
 | 6, v, w => ∃ e : Nat, v = .pointer (some ⟨e, 0, none⟩) ∧ B ≤ e ∧ e < w.heap.size ∧ w.there e 0 4 ∧ TypeAt w e 29
 | 7, v, w => ∃ e : Nat, vs 6 = .pointer (some ⟨e, 0, none⟩) ∧ B ≤ e ∧ e < w.heap.size ∧ TypeAt w e 29 ∧ ∃ (a1 : Option Addr) (l1 c1 : Nat), w.cell? ⟨e, 2, none⟩ = some (.slice a1 l1 c1) ∧ Sl 3 rClsField 0 W0 (.slice a1 l1 c1) c.fFields
 | _, _, _ => True
theorem yF_stays {vs : Nat → Value} {B : Nat} {W0 : World} {pv : Value} {g n cap k : Nat} {xk : Int} {xn : ByteArray} {c : DClsClass} : ∀ i j u w w', i ≠ j → rwG 7 j w w' → yF vs B W0 pv g n cap k xk xn c i u w → yF vs B W0 pv g n cap k xk xn c i u w' := by
 intro i j u w w' hne hg h
 match i with
 | 0 | 1 | 2 | 3 | 4 | 5 => exact h
 | 6 =>
   obtain ⟨e, h1, h2, h3, h4, h5⟩ := h
   exact ⟨e, h1, h2, Nat.lt_of_lt_of_le h3 (rw_size hg), rw_there hg h3 h4, rw_type hg h3 h5⟩
 | 7 =>
   obtain ⟨e, h1, h2, h3, h4, a1, l1, c1, h5, h6⟩ := h
   rcases hg with ⟨_, hg⟩ | ⟨rfl, _⟩
   ·exact ⟨e, h1, h2, Nat.lt_of_lt_of_le h3 hg.size, h4.below hg h3, a1, l1, c1, qaa hg h5, h6⟩
   ·exact absurd rfl hne
 | n + 8 => trivial
def zF (ov : Value) (g n cap k : Nat) (xk : Int) (xn : ByteArray) (L E fb fo fl fc jj : Nat) (fk : Int) (fn : ByteArray) : Nat → Value → World → Prop
 | 0, v, w => v = ov
 | 1, v, w => v = .slice (some ⟨g, 0, none⟩) n cap
 | 2, v, w => v = .int .i64 (k : Int)
 | 3, v, w => v = .pointer (some ⟨g, k * 2, none⟩)
 | 4, v, w => v = .agg #[.int .i64 xk, .string xn]
 | 5, v, w => v = ov
 | 6, v, w => v = .int .i64 (L : Int)
 | 7, v, w => v = .pointer (some ⟨E, 2, none⟩)
 | 8, v, w => v = .slice (some ⟨fb, fo, none⟩) fl fc
 | 9, v, w => v = .int .i64 (jj : Int)
 | 10, v, w => v = .pointer (some ⟨fb, fo + jj * 3, none⟩)
 | 11, v, w => v = .pointer (some ⟨fb, fo + jj * 3 + 1, none⟩)
 | 12, v, w => v = .agg #[.int .i64 fk, .string fn]
 | 13, v, w => v = .agg #[.int .i64 xk, .string xn, .int .i64 (L : Int), .int .i64 fk, .string fn]
 | 14, v, w => Src 5 w v [[.int .i64 xk, .string xn, .int .i64 (L : Int), .int .i64 fk, .string fn]]
 | _, _, _ => True
theorem zF_stays {ov : Value} {g n cap k : Nat} {xk : Int} {xn : ByteArray} {L E fb fo fl fc jj : Nat} {fk : Int} {fn : ByteArray} : ∀ i j u w w', i ≠ j → Below w.heap.size w w' → zF ov g n cap k xk xn L E fb fo fl fc jj fk fn i u w → zF ov g n cap k xk xn L E fb fo fl fc jj fk fn i u w' := by
 intro i j u w w' hne hg h
 match i with
 | 0 | 1 | 2 | 3 | 4 | 5 | 6 | 7 | 8 | 9 | 10 | 11 | 12 | 13 => exact h
 | 14 =>
   exact Src.kept (k := 5) h hg
 | n + 15 => trivial

theorem yF_dep {l : List Oper} {m : Nat} {B : Nat} {W0 : World} {pv : Value} {g n cap k : Nat} {xk : Int} {xn : ByteArray} {c : DClsClass} (h : ∀ o, l[7]? = some o → ∃ e ∈ o.after, Region.binds .any e = true ∧ e.on = 6) : DepF (fun vs => yF vs B W0 pv g n cap k xk xn c) l m := by
 intro i o vs vs' u w hi ho he hf
 match i with
 | 0 | 1 | 2 | 3 | 4 | 5 | 6 => exact hf
 | 7 =>
   obtain ⟨e, h1, h2, h3⟩ := h o ho
   have h4 := he e h1 h2
   rw [h3] at h4
   obtain ⟨e', h5, h6⟩ := hf
   exact ⟨e', by rw [← h4]; exact h5, h6⟩
 | n + 8 => trivial
theorem fld_row {w : World} {va : Option Addr} {vn vc : Nat} {ks : List DClsField} (h : Sl 3 rClsField 0 w (.slice va vn vc) ks) {j : Nat} {kd : DClsField} (hk : ks[j]? = some kd) : ∃ (vb vo : Nat), va = some ⟨vb, vo, none⟩ ∧ vb < w.heap.size ∧ kd.fKind.fName.size ≤ maxLen ∧ w.cell? ⟨vb, vo + j * 3 + 1, none⟩ = some (.int .i64 kd.fKind.fKind) ∧ w.cell? ⟨vb, vo + j * 3 + 1 + 1, none⟩ = some (.string kd.fKind.fName) := by
 obtain ⟨a, len, cap, e, hl, h1, h2, h3⟩ := h
 cases e
 have hs := (List.getElem?_eq_some_iff.1 hk).1
 obtain ⟨b, off, rfl, _, hbl, hr⟩ := h3 (by omega)
 obtain ⟨m', cs, g0, g1, g2, g3⟩ := hr j (by omega)
 obtain rfl : kd = m' := Option.some.inj (hk.symm.trans g0)
 obtain ⟨rfl, b1, b2⟩ := g3
 exact ⟨b, off, rfl, hbl, b2, g2 1 _ rfl, g2 2 _ rfl⟩
theorem fld_len {w : World} {va : Option Addr} {vn vc : Nat} {ks : List DClsField} (h : Sl 3 rClsField 0 w (.slice va vn vc) ks) : ks.length = vn ∧ vn ≤ vc ∧ vc ≤ 9223372036854775807 := by
 obtain ⟨a, len, cap, e, hl, h1, h2, h3⟩ := h
 cases e
 exact ⟨hl, h1, by unfold maxLen at h2; omega⟩

theorem S_l4Layout (p : DLodPlan) (pv : Value) (r : DLodRef) (w : World) (sp : Sl 2 rLodKeeper 0 w pv p.fKeepers) (hn : r.fName.size ≤ maxLen) (hl : lnkLaid p r = true) :
  Calls Tryz.prog 49 #[.agg #[pv], .agg #[.int .i64 r.fKeeper, .string r.fName]] w fun e w' => (∃ v, e = .returned v ∧ TSl 5 rLnkField 64 w.heap.size w' v (layR p (lodChain p r))) ∧ Below w.heap.size w w' := by
 obtain ⟨pa, pl, pc, rfl⟩ := sp.form
 obtain ⟨hne, _⟩ := lnkLaid_parts hl
 obtain ⟨hp, hth, hcr⟩ := lodChain_some hn hne
 have hpos : 0 < (lodChain p r).length := List.length_pos_iff.2 hne
 obtain ⟨rs, hrs⟩ : ∃ rs, rs = lodChain p r := ⟨_, rfl⟩
 have hcls : ∀ x ∈ rs, ∃ c, clsAt p x = some c ∧ loOfP p x = c ∧ c.fFields.length ≤ 3 ∧ x.fName.size ≤ maxLen := fun x hx => by
  rw [hrs] at hx
  obtain ⟨c, h1, h2, h3, _⟩ := chain_cls hn hx
  obtain ⟨i, hi⟩ := List.mem_iff_getElem?.1 hx
  exact ⟨c, h1, h2, cls_fields h3, (plain_tail hn hi).1⟩
 have hlen := lay_len (p := p) (rs := rs) fun x hx => by
  obtain ⟨c, _, h2, h3, _⟩ := hcls x hx
  rw [h2]; exact h3
 have h6 : rs.length ≤ 6 := by
  obtain ⟨_, hf6, _⟩ := plain_first (p := p) (r := r) hn hne
  rw [hrs]; exact_mod_cast hf6
 have HCLS := qhd hcls
 have HS := qhd sp
 have HP := qhd hp
 have HTH := qhd hth
 have HCR := qhd hcr
 have HK4 : Hid ((Tryz.prog.info? 29).map (·.size) = some 4) := qhd (by kernel_rfl)
 rw [← hrs] at hpos ⊢
 have HRS := qhd hrs
 have hdl : ∀ k, (layR p (rs.drop k)).length ≤ 18 := fun k => by
  have := lay_len (p := p) (rs := rs.drop k) fun x hx => by
   obtain ⟨c, _, h2, h3, _⟩ := HCLS.out x (List.mem_of_mem_drop hx)
   rw [h2]; exact h3
  simp only [List.length_drop] at this
  omega
 have HDL := qhd hdl
 clear hp hth hcr hne hrs hcls sp hl hlen h6 hdl
 refine qab fun R HR => ?_
 go_enter Tryz.func49, Tryz.ntmps49
 go_wp2_with fail
 have hBA : Below w.heap.size w ((w.alloc (.cells #[.slice pa pl pc] 25)).alloc (.cells #[.int .i64 r.fKeeper, .string r.fName] 42)) := bbel
 refine (S_l3Chain p _ r _ (HS.out.stays rLodKeeper_good (Keeps.of_below hBA)) HP.out HTH.out).mono ?_
 rintro _ wC ⟨hC, v, rfl, hrefs⟩
 have hrf := hrefs _ HCR.out
 rw [← HRS.out] at hrf
 have HRF := qhd hrf
 obtain ⟨g, cap, rfl, _, hc1, hc2, hgl⟩ := hrf.form hpos
 have hBC : Below w.heap.size w wC := hBA.trans (hC.mono hBA.size)
 have hsC := hC.size
 simp only [World.size_alloc] at hsC
 have r0 : wC.cell? ⟨w.heap.size, 0, none⟩ = some (.slice pa pl pc) := qaa hC (by go_simp)
 have hl0 : w.heap.size < wC.heap.size := by omega
 obtain ⟨n, hnn⟩ : ∃ n, n = rs.length := ⟨_, rfl⟩
 have HN := qhd hnn
 rw [← hnn] at hpos hc1 ⊢
 have hcap : cap ≤ 9223372036854775807 := by unfold maxLen at hc2; omega
 clear hrefs hrf hnn hC hBA
 have SPP : Hid (Sl 2 rLodKeeper 0 wC (.slice pa pl pc) p.fKeepers) := qhd (HS.out.stays rLodKeeper_good (Keeps.of_below hBC))
 go_wp2_with fail
 go_loopw [7, 8] (fun zo zi wr => ∃ (k : Nat) (ki : Int), k ≤ n ∧ ki = (k : Int) - 1 ∧ zi = .int .i64 ki ∧ TOwn 5 rLnkField 64 wC.heap.size wC.heap.size wr zo (layR p (rs.drop k)) ∧ Below wC.heap.size wC wr) (fun _ zi _ => (intOf zi + 1).toNat)
 case atStart =>
  refine ⟨n, (n : Int) - 1, Nat.le_refl _, rfl, by go_num, ?_, (Below.refl _ _).alloc (Nat.le_refl _) _⟩
  rw [HN.out, List.drop_length]
  exact (Empty0.new wC _ (Nat.le_refl _)).own (Nat.le_refl _)
 case round =>
  obtain ⟨k, ki, hk, hki, rfl, hto, hb⟩ := hrel
  have hbs := hb.size
  have hBR : Below w.heap.size w wr := hBC.trans (hb.mono hBC.size)
  have HBR := qhd hb
  have HTO := qhd hto
  replace r0 := qaa hb r0
  have hlr0 : w.heap.size < wr.heap.size := by omega
  have hgr : g < wr.heap.size := by omega
  obtain ⟨oa, oc, hov, hoc, hom⟩ := hto.sl.form
  subst hov
  clear hto
  rcases k with _ | k
  ·obtain rfl : ki = -1 := by omega
   clear hki
   go_wp2
   all_goals
    (try go_returns)
    exact HR.out _ _ ⟨⟨_, rfl, by have := HTO.out.sl.low' qal (E := NoT) (Nat.le_trans hBC.size (Nat.le_refl _)); rwa [List.drop_zero] at this⟩, by clear hb; exact bbel⟩
  ·obtain rfl : ki = (k : Int) := by omega
   clear hki
   obtain ⟨⟨xk, xn⟩, hx⟩ : ∃ x, rs[k]? = some x := ⟨_, List.getElem?_eq_getElem (by rw [← HN.out]; omega)⟩
   obtain ⟨p1, p2⟩ := HRF.out.cell2 hx
   have q1 := qaa hb p1
   have q2 := qaa hb p2
   obtain ⟨c, hc, hlc, hc3, hxn⟩ := HCLS.out _ (List.mem_of_getElem? hx)
   have HP1 := qhd p1
   have HP2 := qhd p2
   have HC := qhd hc
   have HLC := qhd hlc
   have hkn : (k : Int) < (n : Int) := by omega
   have hkc : (k : Int) ≤ (cap : Int) := by omega
   have hlay := layR_drop (p := p) hx
   have HLAY := qhd hlay
   clear hx p1 p2 hc hlc hlay
   go_wp2_with fail
   refine qay 8 (Below wr.heap.size wr) (rwG 7) (fun vs => yF vs wr.heap.size wC (.slice pa pl pc) g n cap k xk xn c) (fun _ _ => True) noDead (by kernel_rfl) (by decide) (by kernel_rfl) (Or.inl (by rfl)) (by kernel_rfl) ((Below.refl _ _).drew) ?hdep noDead_dead (fun _ => trivial) (fun _ _ _ _ _ _ _ _ => trivial) (fun _ i j u w1 w2 hne _ _ hg hF => yF_stays i j u w1 w2 hne hg hF) (fun j w _ => rw_rfl _ j w) ?_
   case hdep => exact yF_dep (fun o ho => by cases ho; exact ⟨⟨6, .data⟩, by simp, rfl, rfl⟩)
   refine qac (d := 25) rfl rfl (fun wx hC hI hd S0 hS => ?_) (fun v0 => ?_)
   ·have c0' := qaa hC r0
    have HSS := qhd hS; clear hS hd hI
    go_simp
    exact HSS.out _ _ hC (rw_rfl _ _ _) (by simp [yF])
   simp only [qnr]
   refine qac (d := 26) rfl rfl (fun wx hC hI hd S0 hS => ?_) (fun v1 => ?_)
   ·have HSS := qhd hS; clear hS hd hI
    go_simp
    exact HSS.out _ _ hC (rw_rfl _ _ _) (by simp [yF])
   simp only [qnr]
   refine qac (d := 27) rfl rfl (fun wx hC hI hd S0 hS => ?_) (fun v2 => ?_)
   ·have HSS := qhd hS; clear hS hd hI
    go_simp
    exact HSS.out _ _ hC (rw_rfl _ _ _) (by simp [yF])
   simp only [qnr]
   refine qac (d := 28) rfl rfl (fun wx hC hI hd S0 hS => ?_) (fun v3 => ?_)
   ·have d1 := hd ⟨1, .data⟩ (by simp) rfl v1 (by simp)
    simp only [yF] at d1
    subst d1
    have d2 := hd ⟨2, .data⟩ (by simp) rfl v2 (by simp)
    simp only [yF] at d2
    subst d2
    have HSS := qhd hS; clear hS hd hI
    go_simp
    exact HSS.out _ _ hC (rw_rfl _ _ _) (by simp [yF])
   simp only [qnr]
   refine qac (d := 29) rfl rfl (fun wx hC hI hd S0 hS => ?_) (fun v4 => ?_)
   ·have d3 := hd ⟨3, .data⟩ (by simp) rfl v3 (by simp)
    simp only [yF] at d3
    subst d3
    have c1' := qaa hC q1
    have c2' := qaa hC q2
    have HSS := qhd hS; clear hS hd hI
    go_simp
    exact HSS.out _ _ hC (rw_rfl _ _ _) (by simp [yF])
   simp only [qnr]
   refine qac (d := 30) rfl rfl (fun wx hC hI hd S0 hS => ?_) (fun v5 => ?_)
   ·have d0 := hd ⟨0, .data⟩ (by simp) rfl v0 (by simp)
    simp only [yF] at d0
    subst d0
    have d4 := hd ⟨4, .data⟩ (by simp) rfl v4 (by simp)
    simp only [yF] at d4
    subst d4
    have HSS := qhd hS; clear hS hd hI
    go_simp
    refine (S_l3ClassO p _ ⟨xk, xn⟩ c wC wx (HBR.out.trans (hC.mono HBR.out.size)) SPP.out HC.out hxn).mono ?_
    rintro _ w' ⟨⟨_, rfl, a1, l1, c1, a2, l2, c2, rfl, s1, s2, _, _⟩, hX⟩
    refine HSS.out _ _ (hC.trans (hX.mono hC.size)) (rw_of (by simp) hX) ?_
    (simp only [qls, Nat.reduceAdd, yF])
    exact ⟨a1, l1, c1, a2, l2, c2, rfl, s1⟩
   simp only [qnr]
   refine qac (d := 9) rfl rfl (fun wx hC hI hd S0 hS => ?_) (fun v6 => ?_)
   ·have hzx := hC.size
    have HSS := qhd hS; clear hS hd hI
    go_simp
    refine HSS.out _ _ (hC.alloc hzx _) (rw_of (by simp) ((Below.refl _ _).alloc (Nat.le_refl _) _)) ?_
    (simp only [qls, Nat.reduceAdd, yF])
    exact ⟨_, rfl, hzx, by simp, there_of (heap_alloc_new wx _) rfl, TypeAt.new _ _ _⟩
   simp only [qnr]
   refine wpRelyE_cons0 rfl rfl (fun wx hC hI hd S0 hS => ?_) (fun v7 => ?_)
   ·have d6 := hd ⟨6, .data⟩ (by simp) rfl v6 (by simp)
    simp only [yF] at d6
    obtain ⟨e6, d6, he6, hl6, ht6, hT6⟩ := d6
    have d5 := hd ⟨5, .data⟩ (by simp) rfl v5 (by simp)
    simp only [yF] at d5
    obtain ⟨a1, l1, c1, a2, l2, c2, d5, sf5⟩ := d5
    subst d6; subst d5
    have HSS := qhd hS; clear hS hd hI
    refine wp_store_rowO 29 (.tmp 9) (.tmp 30) rfl e6 ([.string c.fName, .string c.fSuper, .slice a1 l1 c1, .slice a2 l2 c2]) (by rfl) (by rfl) (by simpa using ht6) HK4.out (by intro v hv; simp only [List.mem_cons, List.not_mem_nil, or_false] at hv; rcases hv with rfl | rfl | rfl | rfl <;> rfl) (fun w' hr1 hr2 hr3 hr4 hr5 => ⟨put_defers' _ _ _, ?_⟩)
    refine HSS.out _ _ (hC.trans (hr3.below he6)) (rw_store (Nat.le_of_eq hr3.size) hr4 hr5) ?_
    (simp only [qls, Nat.reduceAdd, yF])
    exact ⟨e6, rfl, he6, by rw [← hr3.size]; exact hl6, hr5 _ _ hT6, a1, l1, c1, by simpa using hr1 2 _ rfl, sf5⟩
   simp only [qnr]
   intro wF hC hF
   have f7 := hF 7 v7 (by simp) (fun _ _ => rfl)
   simp only [yF, getv, List.nil_append, List.cons_append, List.getD_cons_succ, List.getD_cons_zero] at f7
   obtain ⟨E, f7, hE1, hE2, hET, fa, fl, fc, hEc, hfs⟩ := f7
   subst f7
   obtain ⟨hfl, hfc, hfm⟩ := fld_len hfs
   have HFL := qhd hfl
   have HFS := qhd hfs
   have hBF : Below wC.heap.size wC wF := hb.trans (hC.mono hb.size)
   have htF : TOwn 5 rLnkField 64 wC.heap.size wC.heap.size wF (.slice oa (layR p (rs.drop (k + 1))).length oc) (layR p (rs.drop (k + 1))) := HTO.out.below (E := NoT) qal hC
   have HTF := qhd htF
   have hElo : wC.heap.size ≤ E := by omega
   have hsF := hC.size
   have hm3 : fl ≤ 9223372036854775807 := by omega
   obtain ⟨bs, hbs'⟩ : ∃ bs, layR p (rs.drop (k + 1)) = bs := ⟨_, rfl⟩
   have hb18 := HDL.out (k + 1)
   rw [hbs'] at htF hb18
   have HBS := qhd hbs'
   rw [hbs'] at HTF ⊢
   clear hF hC r0 q1 q2 hbs' hfs hfl htF
   simp only [List.drop_succ_cons, List.drop_zero]
   go_wp2_with fail
   go_loopw [7, 10] (fun zo zj wr => ∃ j : Nat, j ≤ fl ∧ zj = .int .i64 j ∧ TOwn 5 rLnkField 64 wC.heap.size wC.heap.size wr zo (bs ++ (ownLay p ⟨xk, xn⟩ bs.length).take j) ∧ TypeAt wr E 29 ∧ wr.cell? ⟨E, 2, none⟩ = some (.slice fa fl fc) ∧ Below wC.heap.size wC wr) (fun _ zj _ => fl - (intOf zj).toNat)
   case atStart => exact ⟨0, Nat.zero_le _, rfl, by rw [List.take_zero, List.append_nil]; exact HTF.out, hET, hEc, hBF⟩
   case round =>
    obtain ⟨j, hj, rfl, htj, hTE, z2, hbj⟩ := hrel
    have hjs := hbj.size
    have HBJ := qhd hbj
    have HTJ := qhd htj
    have hgj : g < wr.heap.size := by omega
    have hEw : E < wr.heap.size := block_lt_of_cell z2
    have hEn : wC.heap.size ≤ E := hElo
    obtain ⟨oa2, oc2, hov, hoc2, hom2⟩ := htj.sl.form
    by_cases hjl : j < fl
    ·have hjl2 : (j : Int) < (fl : Int) := by omega
     obtain ⟨f, hf⟩ : ∃ x, c.fFields[j]? = some x := ⟨_, List.getElem?_eq_getElem (by rw [HFL.out]; exact hjl)⟩
     obtain ⟨fb, fo, ef, hfb, hfn, f1', f2'⟩ := fld_row HFS.out hf
     subst ef
     have f1 := qaa hbj f1'
     have q1 := qaa hbj HP1.out
     have q2 := qaa hbj HP2.out
     have f2 := qaa hbj f2'
     have hfbj : fb < wr.heap.size := by omega
     have hsn := ownLay_snoc (p := p) (r := ⟨xk, xn⟩) (n := bs.length) (j := j) (f := f) (by rw [HLC.out]; exact hf)
     have HSN := qhd hsn
     have hlj : (bs ++ (ownLay p ⟨xk, xn⟩ bs.length).take j).length = bs.length + j := by
      have := ownLay_len p ⟨xk, xn⟩ bs.length
      rw [HLC.out, HFL.out] at this
      rw [List.length_append, List.length_take, this]; omega
     rw [hlj] at hov hoc2
     subst hov
     have HLJ := qhd hlj
     have hl6 : j ≤ 3 := by have := HFL.out; omega
     clear hf f1' f2' hsn hlj htj
     go_wp2_with fail
     refine qay 15 (Below wr.heap.size wr) (fun _ w1 w2 => Below w1.heap.size w1 w2) (fun _ => zF (.slice oa2 (bs.length + j) oc2) g n cap k xk xn (bs.length + j) E fb fo fl fc j f.fKind.fKind f.fKind.fName) (fun _ _ => True) noDead (by kernel_rfl) (by decide) (by kernel_rfl) (Or.inr ⟨by kernel_rfl, by kernel_rfl⟩) (by kernel_rfl) ((Below.refl _ _).drew) (fun _ _ _ _ _ _ _ _ _ h => h) noDead_dead (fun _ => trivial) (fun _ _ _ _ _ _ _ _ => trivial) (fun _ i j u w1 w2 hne _ _ hg hF => zF_stays i j u w1 w2 hne hg hF) (fun _ _ _ => Below.refl _ _) ?_
     refine qac (d := 38) rfl rfl (fun wx hC hI hd S0 hS => ?_) (fun y0 => ?_)
     ·have HSS := qhd hS; clear hS hd hI
      go_simp
      exact HSS.out _ _ hC (Below.refl _ _) (by simp [zF])
     simp only [qnr]
     refine qac (d := 39) rfl rfl (fun wx hC hI hd S0 hS => ?_) (fun y1 => ?_)
     ·have HSS := qhd hS; clear hS hd hI
      go_simp
      exact HSS.out _ _ hC (Below.refl _ _) (by simp [zF])
     simp only [qnr]
     refine qac (d := 40) rfl rfl (fun wx hC hI hd S0 hS => ?_) (fun y2 => ?_)
     ·have HSS := qhd hS; clear hS hd hI
      go_simp
      exact HSS.out _ _ hC (Below.refl _ _) (by simp [zF])
     simp only [qnr]
     refine qac (d := 41) rfl rfl (fun wx hC hI hd S0 hS => ?_) (fun y3 => ?_)
     ·have d1 := hd ⟨1, .data⟩ (by simp) rfl y1 (by simp)
      simp only [zF] at d1
      subst d1
      have d2 := hd ⟨2, .data⟩ (by simp) rfl y2 (by simp)
      simp only [zF] at d2
      subst d2
      have HSS := qhd hS; clear hS hd hI
      go_simp
      exact HSS.out _ _ hC (Below.refl _ _) (by simp [zF])
     simp only [qnr]
     refine qac (d := 42) rfl rfl (fun wx hC hI hd S0 hS => ?_) (fun y4 => ?_)
     ·have d3 := hd ⟨3, .data⟩ (by simp) rfl y3 (by simp)
      simp only [zF] at d3
      subst d3
      have c1' := qaa hC q1
      have c2' := qaa hC q2
      have HSS := qhd hS; clear hS hd hI
      go_simp
      exact HSS.out _ _ hC (Below.refl _ _) (by simp [zF])
     simp only [qnr]
     refine qac (d := 43) rfl rfl (fun wx hC hI hd S0 hS => ?_) (fun y5 => ?_)
     ·have HSS := qhd hS; clear hS hd hI
      go_simp
      exact HSS.out _ _ hC (Below.refl _ _) (by simp [zF])
     simp only [qnr]
     refine qac (d := 44) rfl rfl (fun wx hC hI hd S0 hS => ?_) (fun y6 => ?_)
     ·have d5 := hd ⟨5, .data⟩ (by simp) rfl y5 (by simp)
      simp only [zF] at d5
      subst d5
      have HSS := qhd hS; clear hS hd hI
      go_simp
      exact HSS.out _ _ hC (Below.refl _ _) (by simp [zF])
     simp only [qnr]
     refine qac (d := 45) rfl rfl (fun wx hC hI hd S0 hS => ?_) (fun y7 => ?_)
     ·have HSS := qhd hS; clear hS hd hI
      go_simp
      exact HSS.out _ _ hC (Below.refl _ _) (by simp [zF])
     simp only [qnr]
     refine qac (d := 46) rfl rfl (fun wx hC hI hd S0 hS => ?_) (fun y8 => ?_)
     ·have d7 := hd ⟨7, .data⟩ (by simp) rfl y7 (by simp)
      simp only [zF] at d7
      subst d7
      have c3' := qaa hC z2
      have HSS := qhd hS; clear hS hd hI
      go_simp
      exact HSS.out _ _ hC (Below.refl _ _) (by simp [zF])
     simp only [qnr]
     refine qac (d := 47) rfl rfl (fun wx hC hI hd S0 hS => ?_) (fun y9 => ?_)
     ·have HSS := qhd hS; clear hS hd hI
      go_simp
      exact HSS.out _ _ hC (Below.refl _ _) (by simp [zF])
     simp only [qnr]
     refine qac (d := 48) rfl rfl (fun wx hC hI hd S0 hS => ?_) (fun y10 => ?_)
     ·have d8 := hd ⟨8, .data⟩ (by simp) rfl y8 (by simp)
      simp only [zF] at d8
      subst d8
      have d9 := hd ⟨9, .data⟩ (by simp) rfl y9 (by simp)
      simp only [zF] at d9
      subst d9
      have HSS := qhd hS; clear hS hd hI
      go_simp
      exact HSS.out _ _ hC (Below.refl _ _) (by simp [zF])
     simp only [qnr]
     refine qac (d := 49) rfl rfl (fun wx hC hI hd S0 hS => ?_) (fun y11 => ?_)
     ·have d10 := hd ⟨10, .data⟩ (by simp) rfl y10 (by simp)
      simp only [zF] at d10
      subst d10
      have HSS := qhd hS; clear hS hd hI
      go_simp
      exact HSS.out _ _ hC (Below.refl _ _) (by simp [zF])
     simp only [qnr]
     refine qac (d := 50) rfl rfl (fun wx hC hI hd S0 hS => ?_) (fun y12 => ?_)
     ·have d11 := hd ⟨11, .data⟩ (by simp) rfl y11 (by simp)
      simp only [zF] at d11
      subst d11
      have c4' := qaa hC f1
      have c5' := qaa hC f2
      have HSS := qhd hS; clear hS hd hI
      go_simp
      exact HSS.out _ _ hC (Below.refl _ _) (by simp [zF])
     simp only [qnr]
     refine qac (d := 51) rfl rfl (fun wx hC hI hd S0 hS => ?_) (fun y13 => ?_)
     ·have d4 := hd ⟨4, .data⟩ (by simp) rfl y4 (by simp)
      simp only [zF] at d4
      subst d4
      have d6 := hd ⟨6, .data⟩ (by simp) rfl y6 (by simp)
      simp only [zF] at d6
      subst d6
      have d12 := hd ⟨12, .data⟩ (by simp) rfl y12 (by simp)
      simp only [zF] at d12
      subst d12
      have HSS := qhd hS; clear hS hd hI
      go_simp
      exact HSS.out _ _ hC (Below.refl _ _) (by simp [zF])
     simp only [qnr]
     refine qac (d := 52) rfl rfl (fun wx hC hI hd S0 hS => ?_) (fun y14 => ?_)
     ·have d13 := hd ⟨13, .data⟩ (by simp) rfl y13 (by simp)
      simp only [zF] at d13
      subst d13
      have HSS := qhd hS; clear hS hd hI
      have h9 := run_one sty_Lfd [.int .i64 xk, .string xn, .int .i64 ((bs.length + j : Nat) : Int), .int .i64 f.fKind.fKind, .string f.fKind.fName] rfl (by decide) wx
      refine wp_buildOne rfl rfl h9 ⟨put_defers' _ _ _, ?_⟩
      rw [qag (by simp)]
      refine HSS.out _ _ (hC.trans (((Below.refl _ _).alloc (Nat.le_refl _) _).mono hC.size)) ((Below.refl _ _).alloc (Nat.le_refl _) _) ?_
      (simp only [qls, Nat.reduceAdd, zF])
      exact Src.new (k := 5)
     simp only [qnr]
     intro wF2 hC hF
     have g0 := hF 0 y0 (by simp) (fun _ _ => rfl)
     have g14 := hF 14 y14 (by simp) (fun _ _ => rfl)
     simp only [zF] at g0 g14
     subst g0
     have hz2 := qaa hC z2
     have hTE2 := hTE.below hC hEw
     have hsz2 := hC.size
     have hvv := HTJ.out.below (E := NoT) qal hC
     have hwz : wC.heap.size ≤ wF2.heap.size := by omega
     have hb18' := hb18
     clear hF
     simp only [List.drop_succ_cons, List.drop_zero]
     refine qam (B := wC.heap.size) (lo := wC.heap.size) (xs := bs ++ (ownLay p ⟨xk, xn⟩ bs.length).take j) (ys := [⟨⟨xk, xn⟩, ((bs.length + j : Nat) : Int), f.fKind⟩]) (css := [[.int .i64 xk, .string xn, .int .i64 ((bs.length + j : Nat) : Int), .int .i64 f.fKind.fKind, .string f.fKind.fName]]) (E := fun s => s ≠ 64) (by rfl) (.tmp 38) (.tmp 52) 53 (by rfl) sty_Lfd qal (fun h => h rfl) rLnkField_one (by rfl) (by rfl) hvv g14 (Rows.one rfl ⟨rfl, hxn, hfn⟩) (by have := HLJ.out; simp only [List.length_cons, List.length_nil]; omega) (Nat.le_refl _) hwz ?_
     intro v9 wG htG hbG hgG hkG hatG
     have hBG : Below wC.heap.size wC wG := (hbj.trans (hC.mono hjs)).trans hbG
     have hEG := hTE2.kept hkG (Nat.zero_le _) (show 29 ≠ 64 by decide)
     have hTG := hTE2.of_kept hEG
     have hzG := (qae hEG).trans hz2
     rw [List.append_assoc, ← HSN.out] at htG
     clear hC hbG hgG hkG hatG hvv g14
     go_wp2
     go_roundw
     case measure => simp [intOf]; omega
     case rel => exact ⟨j + 1, by omega, by go_num, htG, hTG, hzG, hBG⟩
    ·obtain rfl : j = fl := by omega
     have hfull : bs ++ (ownLay p ⟨xk, xn⟩ bs.length).take j = layR p (rs.drop k) := by
      rw [HLAY.out, HBS.out, List.take_of_length_le]
      rw [ownLay_len, HLC.out, HFL.out]; exact Nat.le_refl _
     have HTK := qhd HTJ.out
     rw [hfull] at HTK
     subst hov
     clear hfull htj
     go_wp2
     go_roundw
     case measure => simp [intOf] <;> omega
     case rel => exact ⟨k, (k : Int) - 1, by omega, rfl, by go_num, HTK.out, hbj⟩


def LayV (w : World) (e : Ending) (w' : World) (xs : List DLnkField) : Prop := (∃ v, e = .returned v ∧ TSl 5 rLnkField 64 w.heap.size w' v xs) ∧ Below w.heap.size w w'

theorem S_LnkLayout (x : DLodPlan) (v1 : Value) (r : DLodRef) (w : World) (s1 : Sl 2 rLodKeeper 0 w v1 x.fKeepers) (hn : r.fName.size ≤ maxLen) :
  Calls Tryz.prog 23 #[.agg #[v1], .agg #[.int .i64 r.fKeeper, .string r.fName]] w fun e w' => LayV w e w' (lnkLayout x r) := by
 obtain ⟨pa, pl, pc, rfl⟩ := s1.form
 have HS := qhd s1
 obtain ⟨z, hz⟩ : ∃ z, z = lnkLaid x r := ⟨_, rfl⟩
 have HZ := qhd hz
 obtain ⟨u, hu⟩ : ∃ u, u = lnkLayout x r := ⟨_, rfl⟩
 have HU := qhd hu
 rw [← hu]
 have CL : Hid (∀ W, Below w.heap.size w W → Calls Tryz.prog 18 #[.agg #[.slice pa pl pc], .agg #[.int .i64 r.fKeeper, .string r.fName]] W fun e w' => e = .returned (.bool z) ∧ Below W.heap.size W w') := qhd fun W hW => by
  rw [hz]; exact S_LnkLaid x _ r W (HS.out.stays rLodKeeper_good (Keeps.of_below hW)) hn
 clear s1 hz hu
 refine qab fun R HR => ?_
 go_enter Tryz.func23, Tryz.ntmps23
 go_wp2_with fail
 have hB0 : Below w.heap.size w ((w.alloc (.cells #[.slice pa pl pc] 25)).alloc (.cells #[.int .i64 r.fKeeper, .string r.fName] 42)) := bbel
 refine (CL.out _ hB0).mono ?_
 rintro _ wA ⟨rfl, hA⟩
 have hsA := hA.size
 simp only [World.size_alloc] at hsA
 have hBA : Below w.heap.size w wA := hB0.trans (hA.mono hB0.size)
 have r0 : wA.cell? ⟨w.heap.size, 0, none⟩ = some (.slice pa pl pc) := qaa hA (by go_simp)
 have r1 : wA.cell? ⟨w.heap.size + 1, 0, none⟩ = some (.int .i64 r.fKeeper) := qaa hA (by go_simp)
 have r2 : wA.cell? ⟨w.heap.size + 1, 1, none⟩ = some (.string r.fName) := qaa hA (by go_simp)
 have l0 : w.heap.size < wA.heap.size := by omega
 have l1 : w.heap.size + 1 < wA.heap.size := by omega
 clear hA hB0
 cases z
 ·have RV : Hid (u = []) := qhd (by rw [HU.out]; unfold lnkLayout; rw [← HZ.out]; rfl)
  go_wp2
  all_goals
   (try go_returns)
   exact HR.out _ _ ⟨⟨_, rfl, by rw [RV.out]; exact ((Empty0.new wA 64 (Nat.le_refl _)).own (α := DLnkField) (k := 5) (R := rLnkField) (Nat.le_refl _)).sl.low' (E := NoT) qal hBA.size⟩, bbel⟩
 ·have RV : Hid (u = layR x (lodChain x r)) := qhd (by rw [HU.out]; unfold lnkLayout; rw [← HZ.out]; rfl)
  go_wp2_with fail
  refine (S_l4Layout x _ r wA (HS.out.stays rLodKeeper_good (Keeps.of_below hBA)) hn HZ.out.symm).mono ?_
  rintro _ wC ⟨⟨v, rfl, hv⟩, hC⟩
  obtain ⟨va, vc, rfl, _, _⟩ := hv.form
  have HV := qhd hv
  clear hv
  go_wp2
  all_goals
   (try go_returns)
   exact HR.out _ _ ⟨⟨_, rfl, by rw [RV.out]; exact HV.out.low' (E := NoT) qal hBA.size⟩, bbel⟩

end Go.Proofs.YtmbfpbgkchncgaaGreat

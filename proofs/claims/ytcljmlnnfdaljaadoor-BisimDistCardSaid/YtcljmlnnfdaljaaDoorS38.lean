/- Laws of a calculus of walks, proved for any program: no condition beyond those that each theorem states. -/
import Derived.Test.YtcljmlnnfdaljaaDoorS34
namespace Go.Proofs.Wit
/-! a canonical list's sets -/
structure NdFit (A B : Nat) (nd : NV) : Prop where
  op1 : 1 ≤ nd.op
  op13 : nd.op ≤ 13
  fact : nd.op = 3 → 0 ≤ nd.i ∧ nd.i.toNat < B
  ag : nd.op = 9 ∨ nd.op = 10 → 0 ≤ nd.i ∧ nd.i.toNat < A
  gr : 11 ≤ nd.op → 1 ≤ nd.g ∧ nd.g.toNat < 2 ^ A
theorem NdFit.of {A B : Nat} {nd : NV} (h1 : 1 ≤ nd.op ∧ nd.op ≤ 21) (hf : FldOk nd.op nd.i nd.e nd.g) (hs : StatL A B nd.op nd.i nd.g) : NdFit A B nd := by
  obtain ⟨h13, ha, hb, hg⟩ := hs
  refine ⟨h1.1, h13, fun e => ⟨(hf.fact e).1, hb e⟩, fun e => ?_, fun e => ⟨(hf.gr ?_).1, hg⟩⟩
  · have hag : agO nd.op = true := by rcases e with e | e <;> rw [e] <;> rfl
    exact ⟨(hf.ag hag).1, ha hag⟩
  · simp only [grO, Bool.and_eq_true, decide_eq_true_eq]; omega
def setsL (n : Nat) (val : List W64) (rel : List (List W64)) (g : List NV) (k : Nat) : List W64 := (List.range k).map (fun i => semT n val rel (treeAt g i))
theorem setsL_len {n : Nat} {val : List W64} {rel : List (List W64)} {g : List NV} {k : Nat} : (setsL n val rel g k).length = k := by simp [setsL]
theorem setsL_succ {n : Nat} {val : List W64} {rel : List (List W64)} {g : List NV} {k : Nat} : setsL n val rel g (k + 1) = setsL n val rel g k ++ [semT n val rel (treeAt g k)] := by simp [setsL, List.range_succ]
theorem setsL_get {n : Nat} {val : List W64} {rel : List (List W64)} {g : List NV} {i k : Nat} (h : i < k) : (setsL n val rel g k).getD i 0#64 = semT n val rel (treeAt g i) := by simp [setsL, List.getD_eq_getElem?_getD, h]
theorem semT_node {n : Nat} {val : List W64} {rel : List (List W64)} {g : List NV} (ho : NodesOk g) {k : Nat} (hk : k < g.length) :
    semT n val rel (treeAt g k) = oneW n val rel g[k].op g[k].i g[k].g (if usX g[k].op = true then semT n val rel (treeAt g g[k].x.toNat) else 0#64) (if usY g[k].op = true then semT n val rel (treeAt g g[k].y.toNat) else 0#64) := by
  have ho2 := ho.ord k hk
  rw [treeAt_node hk (fun h => by have := ho2.1 h; omega) (fun h => by have := ho2.2 h; omega), semT_mk]
/-- what is known of a list that is its own canonical list -/
structure CanF (g : List NV) : Prop where
  chk : chkF g = 0
  can : g = canT (topT g)
theorem CanF.comp {g : List NV} (h : CanF g) : compF g = g := by rw [compF_eq h.chk]; exact h.can.symm
theorem CanF.ok {g : List NV} (h : CanF g) : (topT g).ok := (chkF_zero.1 h.chk).top
theorem CanF.of {t : Tr} (h : t.ok) (hl : (canT t).length ≤ 200) : CanF (canT t) := ⟨(bT_chk h hl).2.1, by rw [(bT_chk h hl).2.2]⟩
theorem CanF.compF {f : List NV} (h : chkF f = 0) : CanF (compF f) := by
  have hl := compF_len h
  have hl2 := (chkF_zero.1 h).len
  rw [compF_eq h] at hl ⊢
  exact .of (chkF_zero.1 h).top (by omega)
theorem topT_comp {f : List NV} (h : chkF f = 0) : topT (compF f) = topT f := by
  rw [compF_eq h]; exact topT_canT (chkF_zero.1 h).top.wf
theorem CanF.len {g : List NV} (h : CanF g) : g.length ≤ 200 := (chkF_zero.1 h.chk).len
theorem CanF.nodes {g : List NV} (h : CanF g) : NodesOk g := (chkF_zero.1 h.chk).nodes
theorem CanF.trees {g : List NV} (h : CanF g) : Wit.trees g = subT (topT g) := by
  have := h.can
  rw [this]
  conv => rhs; rw [← this]
  exact trees_canT h.ok.wf
theorem CanF.mem {g : List NV} (h : CanF g) {k : Nat} (hk : k < g.length) : treeAt g k ∈ subT (topT g) := by
  rw [← h.trees, treeAt_eq hk]; exact List.getElem_mem _
theorem CanF.all {g : List NV} (h : CanF g) {q : Int → Int → Int → Prop} (hq : allL q (topT g)) {k : Nat} (hk : k < g.length) : allL q (treeAt g k) :=
  visit_all (fun _ ht _ hc => ht.kid hc) (topT g) hq (fun u hu => by cases hu) _ (h.mem hk)
theorem CanF.sub {g : List NV} (h : CanF g) {k : Nat} (hk : k < g.length) : CanF (subF g k) ∧ topT (subF g k) = treeAt g k := by
  have hok : (treeAt g k).ok := h.nodes.tree k hk
  have hl := canon_len h.nodes.ord hk
  have hl2 := h.len
  have e : subF g k = canT (treeAt g k) := by
    rw [subF, if_neg (by simp only [h.chk, ne_eq, not_true_eq_false, false_or]; omega), Int.toNat_natCast]
  rw [e]
  exact ⟨.of hok (by omega), topT_canT hok.wf⟩
theorem CanF.stat {g : List NV} (h : CanF g) {A B : Nat} (hs : allL (StatL A B) (topT g)) {k : Nat} (hk : k < g.length) : andN (frgL (Wit.compF (subF g k))) 15 = 0 ∧ fitB (subF g k) A B = true := by
  obtain ⟨h1, h2⟩ := h.sub hk
  have hq := h.all hs hk
  constructor
  · rw [h1.comp, h1.can, h2]
    exact (frg_has (h.nodes.tree k hk) frO_15).2 (hq.mono (fun _ _ _ h => h.1))
  · exact fitB_iff.2 ⟨h1.chk, by rw [h2]; exact hq.mono (fun _ _ _ h => h.2)⟩
theorem CanF.node {g : List NV} (h : CanF g) {A B : Nat} (hs : allL (StatL A B) (topT g)) {k : Nat} (hk : k < g.length) : NdFit A B g[k] := by
  refine .of (h.nodes k hk).op (fldOk_of (h.nodes k hk).fld) ?_
  have := h.can
  have hs2 := allL_can.1 hs
  rw [← this] at hs2
  exact hs2 _ (List.getElem_mem hk)
theorem holdE_comp {n : Int} {val : List W64} {rel : List (List W64)} {f : List NV} (h : chkF f = 0) : holdE n val rel (compF f) = holdE n val rel f := by
  have hc := CanF.compF h
  have h1 : fitB (compF f) rel.length val.length = fitB f rel.length val.length := by
    rw [Bool.eq_iff_iff, fitB_iff, fitB_iff, topT_comp h]
    exact ⟨fun e => ⟨h, e.2⟩, fun e => ⟨hc.chk, e.2⟩⟩
  unfold holdE
  rw [hc.comp, hc.chk, h, h1]
theorem sets_top {n : Nat} {val : List W64} {rel : List (List W64)} {g : List NV} (h : CanF g) : (setsL n val rel g g.length).getD (g.length - 1) 0#64 = semT n val rel (topT g) := by
  have := (chkF_zero.1 h.chk).pos
  rw [setsL_get (by omega), topT_treeAt]
end Go.Proofs.Wit

/- The locals of a clean procedure, in the order of the walk: no program in sight. -/
import Derived.Test.YtehmmokkjojggabGreatDoorZq27
import Derived.Test.YtehmmokkjojggabGreatDoorPTmp0
namespace Go.Proofs.YtehmmokkjojggabGreatDoor
set_option linter.unusedVariables false
set_option linter.unusedSimpArgs false

/-- a local of the procedure that is not the head -/
def isLoc (n : Nd) : Bool := decide ((n.kind = 54 ∨ n.kind = 55) ∧ n.name ≠ headS)
def locsOf (l : List Nd) : List ByteArray := (l.filter isLoc).map Nd.name
theorem locs_append (l m : List Nd) : locsOf (l ++ m) = locsOf l ++ locsOf m := by simp [locsOf]
theorem locs_snoc (l : List Nd) (n : Nd) : locsOf (l ++ [n]) = locsOf l ++ (if isLoc n then [n.name] else []) := by
  rw [locs_append]
  cases h : isLoc n <;> simp [locsOf, h]

mutual
/-- a tree with no such local -/
def nlN : Nd → Bool
  | .mk k num name kids => !decide ((k = 54 ∨ k = 55) ∧ name ≠ headS) && nlL kids
def nlL : List Nd → Bool
  | [] => true
  | n :: r => nlN n && nlL r
end
theorem nlL_append : ∀ l m : List Nd, nlL (l ++ m) = (nlL l && nlL m)
  | [], m => by rw [List.nil_append, nlL, Bool.true_and]
  | n :: l, m => by rw [List.cons_append, nlL, nlL, nlL_append l m, Bool.and_assoc]
theorem nlL_mem : ∀ {l : List Nd}, nlL l = true → ∀ n ∈ l, nlN n = true
  | [], _, n, hn => by simp at hn
  | m :: l, h, n, hn => by
    rw [nlL, Bool.and_eq_true] at h
    rcases List.mem_cons.1 hn with rfl | hn
    · exact h.1
    · exact nlL_mem h.2 n hn
theorem nlL_of : ∀ {l : List Nd}, (∀ n ∈ l, nlN n = true) → nlL l = true
  | [], _ => by rw [nlL]
  | m :: l, h => by
    rw [nlL, h m (List.mem_cons_self ..), nlL_of (fun n hn => h n (List.mem_cons_of_mem _ hn))]; rfl
theorem nlL_rev {l : List Nd} (h : nlL l = true) : nlL l.reverse = true := nlL_of (fun n hn => nlL_mem h n (List.mem_reverse.1 hn))
theorem nl_default : nlN (default : Nd) = true := by
  show nlN (.mk 0 0 ByteArray.empty []) = true
  rw [nlN, nlL]; simp
theorem nl_at {l : List Nd} (h : nlL l = true) (j : Nat) : nlN (at' l j) = true := by
  by_cases hj : j < l.length
  · exact nlL_mem h _ (at_mem hj)
  · have : at' l j = default := by simp [at', List.getD_eq_getElem?_getD, List.getElem?_eq_none (Nat.le_of_not_lt hj)]
    rw [this]; exact nl_default
mutual
theorem nl_pre : ∀ n : Nd, nlN n = true → (preN n).filter isLoc = []
  | .mk k num name kids, h => by
    rw [nlN, Bool.and_eq_true] at h
    rw [preN, List.filter_cons]
    have : isLoc (.mk k num name kids) = false := by
      show decide ((k = 54 ∨ k = 55) ∧ name ≠ headS) = false
      have h1 := h.1
      rw [Bool.not_eq_true'] at h1
      exact h1
    rw [this]
    simpa using nl_preL kids h.2
theorem nl_preL : ∀ l : List Nd, nlL l = true → (preL l).filter isLoc = []
  | [], _ => by rw [preL]; rfl
  | n :: r, h => by
    rw [nlL, Bool.and_eq_true] at h
    rw [preL, List.filter_append, nl_pre n h.1, nl_preL r h.2]; rfl
end
theorem nl_locs {n : Nd} (h : nlN n = true) : locsOf (preN n) = [] := by rw [locsOf, nl_pre n h]; rfl

mutual
theorem nl_inv : ∀ n : Nd, nlN n = true → nlN (invN n) = true
  | .mk k num name kids, h => by
    rw [nlN, Bool.and_eq_true] at h
    obtain ⟨h1, h2⟩ := h
    have hi := nl_invL kids h2
    rw [invN, invK]
    have key : ∀ (k' : Int) (l : List Nd), (k' = 54 ∨ k' = 55 → k = k') → nlL l = true → nlN (.mk k' num name l) = true := fun k' l hk hl => by
      rw [nlN, hl, Bool.and_true]
      simp only [Bool.not_eq_true', decide_eq_false_iff_not, not_and, Decidable.not_not] at h1 ⊢
      exact fun e => h1 (by rw [hk e]; exact e)
    have three : ∀ a b c : Nd, nlN a = true → nlN b = true → nlN c = true → nlL [a, b, c] = true := fun a b c ha hb hc => by simp [nlL, ha, hb, hc]
    have four : ∀ a b c d : Nd, nlN a = true → nlN b = true → nlN c = true → nlN d = true → nlL [a, b, c, d] = true := fun a b c d ha hb hc hd => by simp [nlL, ha, hb, hc, hd]
    split
    · exact key 57 _ (by omega) (nlL_rev hi)
    · split
      · exact key 41 _ (by omega) h2
      · split
        · exact key 45 _ (by omega) h2
        · split
          · exact key 44 _ (by omega) h2
          · split
            · exact key 51 _ (by omega) h2
            · split
              · exact key 52 _ (by omega) (four _ _ _ _ (nl_at h2 3) (nl_at hi 1) (nl_at hi 2) (nl_at h2 0))
              · split
                · rename_i e
                  exact key 54 _ (fun _ => e) (three _ _ _ (nl_at h2 2) (nl_at hi 1) (nl_at h2 0))
                · exact key k _ (fun _ => rfl) h2
theorem nl_invL : ∀ l : List Nd, nlL l = true → nlL (invL l) = true
  | [], _ => by rw [invL, nlL]
  | n :: r, h => by
    rw [nlL, Bool.and_eq_true] at h
    rw [invL, nlL, nl_inv n h.1, nl_invL r h.2]; rfl
end

theorem nl_v (s : ByteArray) : nlN (vN s) = true := by rw [vN, nlN, nlL]; simp
theorem nl_num (x : Int) : nlN (numN x) = true := by rw [numN, nlN, nlL]; simp
theorem nl_node {k : Int} {s : ByteArray} {l : List Nd} (hk : k ≠ 54 ∧ k ≠ 55) (hl : nlL l = true) : nlN (nodeN k s l) = true := by
  rw [nodeN, nlN, hl]; simp [hk.1, hk.2]
theorem nl_vs : ∀ l : List ByteArray, nlL (l.map vN) = true
  | [] => by rw [List.map_nil, nlL]
  | s :: r => by rw [List.map_cons, nlL, nl_v, nl_vs r]; rfl
theorem nl_call (p : ByteArray) (args : List ByteArray) : nlN (callN p args) = true := nl_node (by omega) (nl_vs args)
theorem nl_block {l : List Nd} (h : nlL l = true) : nlN (blockN l) = true := nl_node (by omega) h
theorem nl_plus (s : ByteArray) {e : Nd} (h : nlN e = true) : nlN (plusN s e) = true := nl_node (by omega) (by simp [nlL, nl_v, h])
theorem nl_head {a b c : Nd} (ha : nlN a = true) (hb : nlN b = true) (hc : nlN c = true) : nlN (nodeN 54 headS [a, b, c]) = true := by
  rw [nodeN, nlN]; simp [nlL, ha, hb, hc]

mutual
theorem nl_bind (lib : List Fn) (cf : CallF) : ∀ b : Bd, GoodB lib b → nlL (bindN cf b) = true
  | .mk tn list op num name args thn els, hg => by
    rw [GoodB] at hg
    obtain ⟨-, -, hop, hthn, hels⟩ := hg
    rw [bindN]
    rcases hop with ⟨rfl, h⟩ | ⟨rfl, h⟩ | ⟨rfl, h, h2⟩ | ⟨rfl, h⟩ | ⟨rfl, h, h2⟩ | rfl | ⟨rfl, h⟩ | ⟨rfl | rfl | rfl, h2⟩
    · simp [nlL, nl_plus tn (nl_num num)]
    · rw [if_neg (by omega), if_pos rfl]
      split
      · simp [nlL, nl_call]
      · simp [nlL, nl_plus tn (nl_v _)]
    · rw [if_neg (by omega), if_neg (by omega), if_pos rfl]
      have : nlN (nodeN (num % 256) ByteArray.empty [vN (argN args 0), vN (argN args 1)]) = true := nl_node (by omega) (by simp [nlL, nl_v])
      simp [nlL, nl_plus tn this]
    · rw [if_neg (by omega), if_neg (by omega), if_neg (by omega), if_pos rfl]
      have h1 := nl_block (nl_binds lib cf thn hthn)
      have h2 := nl_block (nl_binds lib cf els hels)
      have : nlN (nodeN 52 ByteArray.empty [vN (argN args 0), blockN (bindsN cf thn), blockN (bindsN cf els), vN (argN args 0)]) = true := nl_node (by omega) (by simp [nlL, nl_v, h1, h2])
      simp [nlL, this]
    · rw [if_neg (by omega), if_neg (by omega), if_neg (by omega), if_neg (by omega), if_pos rfl]
      simp [nlL, nl_call]
    · simp [nlL]
    · rw [if_neg (by omega), if_neg (by omega), if_neg (by omega), if_neg (by omega), if_neg (by omega), if_pos rfl]
      have h1 : nlN (blockN [nodeN 44 tn [vN headS]]) = true := nl_block (by rw [nlL, nl_node (by omega) (by simp [nlL, nl_v])]; simp [nlL])
      simp [nlL, nl_call, nl_head (nl_v (argN args 0)) h1 (nl_num 0)]
    · rw [if_neg (by omega), if_neg (by omega), if_neg (by omega), if_neg (by omega), if_neg (by omega), if_neg (by omega), if_pos rfl]
      simp [nlL, nl_plus tn (nl_node (k := 4) (s := argN args 0) (l := []) (by omega) (by rw [nlL]))]
    · rw [if_neg (by omega), if_neg (by omega), if_neg (by omega), if_neg (by omega), if_neg (by omega), if_neg (by omega), if_neg (by omega), if_pos rfl]
      have h1 : nlN (blockN [nodeN 45 tn [vN headS]]) = true := nl_block (by rw [nlL, nl_node (by omega) (by simp [nlL, nl_v])]; simp [nlL])
      have h3 : nlN (nodeN 4 (argN args 0) []) = true := nl_node (by omega) (by rw [nlL])
      simp [nlL, nl_call, nl_head (nl_num 0) h1 h3]
    · rw [if_neg (by omega), if_neg (by omega), if_neg (by omega), if_neg (by omega), if_neg (by omega), if_neg (by omega), if_neg (by omega), if_neg (by omega), if_pos rfl]
      have h3 : nlN (nodeN 5 (argN args 0) []) = true := nl_node (by omega) (by rw [nlL])
      have h4 : nlN (nodeN 16 ByteArray.empty [nodeN 5 (argN args 0) [], numN 0]) = true := nl_node (by omega) (by simp [nlL, h3, nl_num])
      simp [nlL, nl_plus tn h4]
theorem nl_binds (lib : List Fn) (cf : CallF) : ∀ l : List Bd, GoodBs lib l → nlL (bindsN cf l) = true
  | [], _ => by rw [bindsN, nlL]
  | b :: r, h => by
    rw [GoodBs] at h
    rw [bindsN, nlL_append, nl_bind lib cf b h.1, nl_binds lib cf r h.2]; rfl
end

theorem locs_block (n : Nd) : locsOf (preN (blockN [n])) = locsOf (preN n) := by
  rw [blockN, nodeN, preN, preL, preL, List.append_nil]
  have : isLoc (.mk 57 0 ByteArray.empty [n]) = false := by simp [isLoc, Nd.kind]
  simp [locsOf, List.filter_cons, this]
theorem locs_loc (t : Par) (n : Nd) (h : t.name ≠ headS) : locsOf (preN (locN t n)) = t.name :: locsOf (preN n) := by
  rw [locN, locs_block]
  have hz : locsOf (preN (numN 0)) = [] := nl_locs (nl_num 0)
  cases hl : t.list with
  | true =>
    simp only [if_true]
    rw [nodeN, preN, preL, preL, List.append_nil]
    have : isLoc (.mk 55 0 t.name [n]) = true := by simp [isLoc, Nd.kind, Nd.name, h]
    simp [locsOf, List.filter_cons, this, Nd.name]
  | false =>
    simp only [Bool.false_eq_true, if_false]
    rw [nodeN, preN]
    have : isLoc (.mk 54 0 t.name [numN 0, n, numN 0]) = true := by simp [isLoc, Nd.kind, Nd.name, h]
    have e : locsOf (.mk 54 0 t.name [numN 0, n, numN 0] :: preL [numN 0, n, numN 0]) = t.name :: locsOf (preL [numN 0, n, numN 0]) := by simp [locsOf, List.filter_cons, this, Nd.name]
    rw [e, preL, preL, preL, preL, List.append_nil, locs_append, locs_append, hz, List.nil_append, List.append_nil]
theorem locs_locals : ∀ (ts : List Par) (n : Nd), (∀ t ∈ ts, t.name ≠ headS) → locsOf (preN (localsN ts n)) = ts.map Par.name ++ locsOf (preN n)
  | [], n, _ => by simp [localsN]
  | t :: r, n, h => by
    have e : localsN (t :: r) n = locN t (localsN r n) := rfl
    rw [e, locs_loc t _ (h t (List.mem_cons_self ..)), locs_locals r n (fun x hx => h x (List.mem_cons_of_mem _ hx))]
    simp
theorem head_ne_t (i : Nat) : tname i ≠ headS := by
  intro h
  have h2 : (tname i).data.toList = headS.data.toList := by rw [h]
  simp [tname, headS, bstr] at h2
/-- the locals of a procedure are the temporaries, in their order -/
theorem locs_proc {lib : List Fn} (g : AFn) (hg : GoodBs lib g.body) (ht : TNamed g.temps) : locsOf (preN (procB g)) = g.temps.map Par.name := by
  have h1 := nl_binds lib selfF g.body hg
  have h2 : nlN (resultN g) = true := by
    unfold resultN
    split
    · exact nl_call _ _
    · exact nl_node (by omega) (by simp [nlL, nl_v])
  have h3 := nlL_rev (nl_invL _ h1)
  have h4 : nlN (blockN (bindsN selfF g.body ++ [resultN g] ++ (invL (bindsN selfF g.body)).reverse)) = true := nl_block (by
    rw [nlL_append, nlL_append, h1, h3]; simp [nlL, h2])
  unfold procB
  rw [locs_locals g.temps _ (fun t ht' => ?_), nl_locs h4, List.append_nil]
  obtain ⟨j, hj, rfl⟩ := List.mem_iff_getElem.1 ht'
  have := ht j hj
  rw [at_eq hj] at this
  rw [this]
  exact head_ne_t j
end Go.Proofs.YtehmmokkjojggabGreatDoor

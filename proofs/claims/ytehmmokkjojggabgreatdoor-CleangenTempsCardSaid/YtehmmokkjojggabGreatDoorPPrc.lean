/- The size of a procedure; the reference's body is the procedure's: no program in sight. -/
import Derived.Test.YtehmmokkjojggabGreatDoorZq28
namespace Go.Proofs.YtehmmokkjojggabGreatDoor
set_option linter.unusedVariables false
set_option linter.unusedSimpArgs false

theorem sizeL_rev : ∀ l : List Nd, sizeL l.reverse = sizeL l
  | [] => rfl
  | n :: r => by rw [List.reverse_cons, sizeL_append, sizeL_rev r, sizeL, sizeL, sizeL]; omega
theorem sizeL_inv : ∀ l : List Nd, (∀ s ∈ l, sizeN (invN s) = sizeN s) → sizeL (invL l) = sizeL l
  | [], _ => by rw [invL]
  | n :: r, h => by
    rw [invL, sizeL, sizeL, h n (List.mem_cons_self ..), sizeL_inv r (fun s hs => h s (List.mem_cons_of_mem _ hs))]
theorem size_block (l : List Nd) : sizeN (blockN l) = sizeL l + 1 := by rw [blockN, size_node]
theorem inv_block (l : List Nd) : invN (blockN l) = .mk 57 0 ByteArray.empty (invL l).reverse := by rw [blockN, nodeN, invN, invK]; rfl
theorem cs_size {n : Nd} (h : CS n) : sizeN (invN n) = sizeN n := by
  induction h with
  | plus s e hs he h57 hz =>
    have : invN (plusN s e) = .mk 41 0 ByteArray.empty [vN s, e] := by rw [plusN, nodeN, invN, invK]; rfl
    rw [this, plusN, nodeN, sizeN, sizeN]
  | call p args hl =>
    have : invN (callN p args) = .mk 51 0 p (args.map vN) := by rw [callN, nodeN, invN, invK]; rfl
    rw [this, size_call, sizeN, sizeL_vs]
  | cond a d l1 l2 h1 h2 n1 n2 i1 i2 =>
    have : invN (nodeN 52 ByteArray.empty [a, blockN l1, blockN l2, d]) = .mk 52 0 ByteArray.empty [d, invN (blockN l1), invN (blockN l2), a] := by
      rw [nodeN, invN, invK]; simp only [invL]; rfl
    rw [this, size_node, sizeN, inv_block, inv_block]
    simp only [sizeL, sizeN, sizeL_rev, size_block]
    rw [sizeL_inv l1 i1, sizeL_inv l2 i2]
    omega
  | loc a c k k' s hk hs ha hc ka kc za zc =>
    have : invN (nodeN 54 headS [a, blockN [nodeN k s [vN headS]], c]) = .mk 54 0 headS [c, .mk 57 0 ByteArray.empty [.mk k' 0 s [vN headS]], a] := by
      rcases hk with ⟨rfl, rfl⟩ | ⟨rfl, rfl⟩
      · rw [nodeN, invN, invK]; simp only [invL]; rfl
      · rw [nodeN, invN, invK]; simp only [invL]; rfl
    rw [this]
    simp only [nodeN, blockN, sizeN, sizeL]
    omega
theorem locals_size : ∀ (ts : List Par) (n : Nd), sizeN (localsN ts n) ≤ sizeN n + 4 * ts.length
  | [], n => by simp [localsN]
  | t :: r, n => by
    have h := locals_size r n
    have e : localsN (t :: r) n = locN t (localsN r n) := rfl
    rw [e, locN, size_block]
    split
    · simp only [sizeL, size_node, List.length_cons]; omega
    · simp only [sizeL, size_node, size_num, List.length_cons]; omega
theorem result_size (g : AFn) : sizeN (resultN g) ≤ 3 := by
  rw [resultN]
  split
  · rw [size_call]; simp
  · rw [size_node]; simp only [sizeL, size_v]; omega
/-- the whole procedure is no great tree -/
theorem proc_size {lib : List Fn} (g : AFn) (hg : GoodBs lib g.body) (hz : sizeBs g.body ≤ 10000) (ht : g.temps.length ≤ 4000) : sizeN (procB g) ≤ 1000000 := by
  have hcs := cs_binds lib selfF (fun _ => by simp [selfF]) g.body hg hz
  have h1 := bindsN_size selfF 0 (fun nm => Nat.le_refl 0) g.body
  have h2 := sizeL_inv (bindsN selfF g.body) (fun s hs => cs_size (hcs s hs))
  have h3 := locals_size g.temps (blockN (bindsN selfF g.body ++ [resultN g] ++ (invL (bindsN selfF g.body)).reverse))
  have h4 := result_size g
  rw [size_block, sizeL_append, sizeL_append, sizeL_rev, h2] at h3
  simp only [sizeL] at h3
  unfold procB
  omega
theorem refF_nil : refF [] = selfF := rfl
end Go.Proofs.YtehmmokkjojggabGreatDoor

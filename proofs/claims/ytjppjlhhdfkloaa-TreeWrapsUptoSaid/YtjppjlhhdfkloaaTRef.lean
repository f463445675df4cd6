/- What the document's answers come to: the tokens that there are, the first fault, where a group ends, the nodes; and that nodes are the same as themselves. -/
import Derived.Test.YtjppjlhhdfkloaaPTpx6
import Derived.Test.YtjppjlhhdfkloaaPTpx10
import Derived.Test.YtjppjlhhdfkloaaTRead
namespace Go.Proofs.Ytjppjlhhdfkloaa.Pure
set_option linter.unusedVariables false
set_option linter.unusedSimpArgs false
open Go.RowKit Go.Proofs.Ytjppjlhhdfkloaa.PTp Go.Proofs.YtjppjlhhdfkloaaW.PrintWords Go.Proofs.YtjppjlhhdfkloaaW.PrintLast Go.Proofs.YtjppjlhhdfkloaaW.PrintMore

theorem real_loop (l : List S44) (hl : l.length ≤ 4194304) : ∀ (d i : Nat) (acc : List S44), i + d = l.length → acc.length ≤ i → Ev (fun k => variorumref06_Real.l0 k l acc (i : Int)) (acc ++ rest l i)
  | 0, i, acc => fun hi ha => by
    refine Ev.step (f := fun _ => some _) (fun k => ?_) (Ev.now _)
    simp only [variorumref06_Real.l0]
    rw [if_neg (by omega), rest_end (by omega), List.append_nil]
  | d + 1, i, acc => fun hi ha => by
    have hil : i < l.length := by omega
    have g1 : (i : Int) < (l.length : Int) := by omega
    have g2 : (0 : Int) ≤ (i : Int) := by omega
    by_cases r : real l[i] = true
    · have hk : 0 ≤ l[i].f0 ∧ l[i].f0 ≤ 3 := by
        unfold real at r
        simpa only [Bool.and_eq_true, decide_eq_true_eq] using r
      have ih := real_loop l hl d (i + 1) (acc ++ [l[i]]) (by omega) (by rw [List.length_append, List.length_singleton]; omega)
      rw [rest_yes hil r]
      rw [List.append_assoc] at ih
      refine Ev.step (fun k => ?_) ih
      simp only [variorumref06_Real.l0, rd44 hil]
      rw [if_pos g1, if_pos g2, if_pos hk.1, if_pos hk.2, if_pos (by omega), succ_w i (by omega)]
    · have hk : ¬ (0 ≤ l[i].f0 ∧ l[i].f0 ≤ 3) := by
        unfold real at r
        simpa only [Bool.and_eq_true, decide_eq_true_eq] using r
      have ih := real_loop l hl d (i + 1) acc (by omega) (by omega)
      rw [rest_no hil r]
      refine Ev.step (fun k => ?_) ih
      simp only [variorumref06_Real.l0, rd44 hil]
      rw [if_pos g1, if_pos g2, succ_w i (by omega)]
      by_cases c : l[i].f0 ≥ 0
      · rw [if_pos c, if_neg (by omega)]
      · rw [if_neg c]
theorem real_ev (l : List S44) (hl : l.length ≤ 4194304) : Ev (fun k => variorumref06_Real.f k l) (rest l 0) := real_loop l hl l.length 0 [] (by omega) (Nat.le_refl _)
theorem fault_loop (r : List S44) (hr : r.length ≤ 4194304) (hk : Kinds r) : ∀ (d i : Nat) (opens : List Int) (b : Bool), i + d = r.length → opens.length ≤ 64 → Ev (fun k => variorumref06_Fault.l0 k r opens b (i : Int)) (Fs (r.drop i) opens b)
  | 0, i, opens, b => fun hi ho => by
    rw [List.drop_eq_nil_of_le (by omega)]
    have e1 : wrap64 ((opens.length : Int) - 1) = (opens.length : Int) - 1 := wrap_small (by omega)
    refine Ev.step (f := fun _ => some _) (fun k => ?_) (Ev.now _)
    simp only [variorumref06_Fault.l0, Fs, e1]
    clear e1
    rw [if_neg (by omega)]
    by_cases c : opens.length > 0
    · rw [if_pos (by omega), if_pos (by omega), if_pos (by omega), if_pos c]
      unfold rd
      rw [show ((opens.length : Int) - 1).toNat = opens.length - 1 by omega]
    · rw [if_neg (by omega), if_neg c]
  | d + 1, i, opens, b => fun hi ho => by
    have hil : i < r.length := by omega
    have g1 : (i : Int) < (r.length : Int) := by omega
    have g2 : (0 : Int) ≤ (i : Int) := by omega
    have hd : r.drop i = r[i] :: r.drop (i + 1) := List.drop_eq_getElem_cons hil
    have kd := hk r[i] (List.getElem_mem hil)
    have ih := fault_loop r hr hk d (i + 1)
    rw [hd]
    simp only [Fs]
    by_cases c2 : r[i].f0 = 2
    · rw [if_pos c2]
      by_cases cb : b = true
      · rw [if_pos cb]
        by_cases c6 : opens.length = 64
        · rw [if_pos c6]
          refine Ev.step (f := fun _ => some _) (fun k => ?_) (Ev.now _)
          simp only [variorumref06_Fault.l0, rd44 hil]
          rw [if_pos g1, if_pos g2, if_pos c2, if_pos cb, if_pos (by omega)]
        · rw [if_neg c6]
          refine Ev.step (fun k => ?_) (ih (opens ++ [r[i].f2]) false (by omega) (by rw [List.length_append, List.length_singleton]; omega))
          simp only [variorumref06_Fault.l0, rd44 hil]
          rw [if_pos g1, if_pos g2, if_pos c2, if_pos cb, if_neg (by omega), if_pos (by omega), succ_w i (by omega)]
          simp only [Option.bind_some]
          rw [if_neg (by omega), c2]; rfl
      · rw [if_neg cb]
        refine Ev.step (f := fun _ => some _) (fun k => ?_) (Ev.now _)
        simp only [variorumref06_Fault.l0, rd44 hil]
        rw [if_pos g1, if_pos g2, if_pos c2, if_neg cb]
    · rw [if_neg c2]
      by_cases c3 : r[i].f0 = 3
      · rw [if_pos c3]
        by_cases c0 : opens.length = 0
        · rw [if_pos c0]
          refine Ev.step (f := fun _ => some _) (fun k => ?_) (Ev.now _)
          simp only [variorumref06_Fault.l0, rd44 hil]
          rw [if_pos g1, if_pos g2, if_neg c2, if_pos c3, if_pos (by omega)]
        · rw [if_neg c0]
          have e1 : wrap64 ((opens.length : Int) - 1) = ((opens.length - 1 : Nat) : Int) := by rw [wrap_small (by omega)]; omega
          refine Ev.step (fun k => ?_) (ih (opens.take (opens.length - 1)) true (by omega) (by rw [List.length_take]; omega))
          simp only [variorumref06_Fault.l0, rd44 hil, e1]
          clear e1
          rw [if_pos g1, if_pos g2, if_neg c2, if_pos c3, if_neg (by omega), if_pos (by omega), if_pos (by omega), succ_w i (by omega)]
          simp only [Option.bind_some, Int.toNat_natCast]
          rw [if_neg (by omega), c3]; rfl
      · rw [if_neg c3]
        have bb : (if r[i].f0 = 1 then true else (r[i].f0 == 3)) = (r[i].f0 == 1) := by
          by_cases c1 : r[i].f0 = 1
          · rw [if_pos c1, c1]; rfl
          · rw [if_neg c1, beq_eq_false_iff_ne.mpr c3, beq_eq_false_iff_ne.mpr c1]
        refine Ev.step (fun k => ?_) (ih opens (r[i].f0 == 1) (by omega) ho)
        simp only [variorumref06_Fault.l0, rd44 hil]
        rw [if_pos g1, if_pos g2, if_neg c2, if_neg c3, succ_w i (by omega), ← bb]
        by_cases c1 : r[i].f0 = 1
        · rw [if_pos c1, if_pos c1]
        · rw [if_neg c1, if_neg c1]
theorem fault_ev (r : List S44) (hr : r.length ≤ 4194304) (hk : Kinds r) : Ev (fun k => variorumref06_Fault.f k r) (Fs r [] false) := by
  have := fault_loop r hr hk r.length 0 [] false (by omega) (by simp)
  rwa [List.drop_zero] at this

/-! ## Where a group ends -/
theorem drop_at {L c : List S44} {t : S44} {i : Nat} (h : L.drop i = t :: c) : ∃ hi : i < L.length, L[i] = t ∧ L.drop (i + 1) = c := by
  have hlen := congrArg List.length h
  rw [List.length_drop, List.length_cons] at hlen
  have hi : i < L.length := by omega
  have h2 := List.drop_eq_getElem_cons hi
  rw [h] at h2
  injection h2 with h3 h4
  exact ⟨hi, h3.symm, h4.symm⟩
theorem end_j {L : List S44} {i : Nat} (hi : i < L.length) (x : Int) (k : Nat) : variorumref06_End.j1 (k + 1) L x (i : Int) = if L[i].f0 = 3 then (if wrap64 (x - 1) = 0 then some (i : Int) else variorumref06_End.l0 k L (wrap64 (x - 1)) (wrap64 ((i : Int) + 1))) else if x = 0 then some (i : Int) else variorumref06_End.l0 k L x (wrap64 ((i : Int) + 1)) := by
  simp only [variorumref06_End.j1, rd44 hi]
  rw [if_pos (by omega), if_pos (by omega)]
theorem end_l {L : List S44} {i : Nat} (hi : i < L.length) (x : Int) (k : Nat) : variorumref06_End.l0 (k + 1) L x (i : Int) = if L[i].f0 = 2 then variorumref06_End.j1 k L (wrap64 (x + 1)) (i : Int) else variorumref06_End.j1 k L x (i : Int) := by
  simp only [variorumref06_End.l0, rd44 hi]
  rw [if_pos (by omega), if_pos (by omega)]
theorem end_pass {L : List S44} {i o : Nat} (hL : L.length ≤ 4194304) (hi : i < L.length) (h2 : ¬ L[i].f0 = 2) (h3 : ¬ L[i].f0 = 3) (ho : 1 ≤ o) {v : Int} (h : Ev (fun k => variorumref06_End.l0 k L (o : Int) ((i + 1 : Nat) : Int)) v) : Ev (fun k => variorumref06_End.l0 k L (o : Int) (i : Int)) v :=
  Ev.step (f := fun k => variorumref06_End.j1 k L (o : Int) (i : Int)) (fun k => by rw [end_l hi, if_neg h2]) (Ev.step (fun k => by rw [end_j hi, if_neg h3, if_neg (by omega), succ_w i (by omega)]) h)
theorem end_open {L : List S44} {i o : Nat} (hL : L.length ≤ 4194304) (hi : i < L.length) (h2 : L[i].f0 = 2) (ho : o ≤ 2000000) {v : Int} (h : Ev (fun k => variorumref06_End.l0 k L ((o + 1 : Nat) : Int) ((i + 1 : Nat) : Int)) v) : Ev (fun k => variorumref06_End.l0 k L (o : Int) (i : Int)) v :=
  Ev.step (f := fun k => variorumref06_End.j1 k L ((o + 1 : Nat) : Int) (i : Int)) (fun k => by rw [end_l hi, if_pos h2, succ_w o (by omega)]) (Ev.step (fun k => by rw [end_j hi, if_neg (by omega), if_neg (by omega), succ_w i (by omega)]) h)
theorem pred_w (o : Nat) (ho : o ≤ 2000000) : wrap64 (((o + 1 : Nat) : Int) - 1) = (o : Int) := by rw [wrap_small (by omega)]; omega
theorem end_close {L : List S44} {i o : Nat} (hL : L.length ≤ 4194304) (hi : i < L.length) (h3 : L[i].f0 = 3) (ho : 1 ≤ o) (ho2 : o ≤ 2000000) {v : Int} (h : Ev (fun k => variorumref06_End.l0 k L (o : Int) ((i + 1 : Nat) : Int)) v) : Ev (fun k => variorumref06_End.l0 k L ((o + 1 : Nat) : Int) (i : Int)) v :=
  Ev.step (f := fun k => variorumref06_End.j1 k L ((o + 1 : Nat) : Int) (i : Int)) (fun k => by rw [end_l hi, if_neg (by omega)]) (Ev.step (fun k => by rw [end_j hi, if_pos h3, pred_w o ho2, if_neg (by omega), succ_w i (by omega)]) h)
theorem end_last {L : List S44} {i : Nat} (hi : i < L.length) (h3 : L[i].f0 = 3) : Ev (fun k => variorumref06_End.l0 k L ((0 + 1 : Nat) : Int) (i : Int)) (i : Int) :=
  Ev.step (f := fun k => variorumref06_End.j1 k L ((0 + 1 : Nat) : Int) (i : Int)) (fun k => by rw [end_l hi, if_neg (by omega)]) (Ev.step (f := fun _ => some (i : Int)) (fun k => by rw [end_j hi, if_pos h3, pred_w 0 (by omega), if_pos (by omega)]) (Ev.now _))
theorem end_over {d : Nat} {x : List S38 ⊕ List (List S38)} {c : List S44} (h : Fl d x c) : ∀ (L tail : List S44) (o i : Nat) (v : Int), L.length ≤ 4194304 → L.drop i = c ++ tail → 1 ≤ o → o + d ≤ 2000000 → Ev (fun k => variorumref06_End.l0 k L (o : Int) ((i + c.length : Nat) : Int)) v → Ev (fun k => variorumref06_End.l0 k L (o : Int) (i : Int)) v := by
  induction h with
  | nil d => intro L tail o i v _ _ _ _ h; exact h
  | nog d => intro L tail o i v _ _ _ _ h; exact h
  | word h1 _ ih =>
    rename_i t ns c _
    intro L tail o i v hL hd ho ho2 h
    rw [List.cons_append] at hd
    obtain ⟨hi, e1, e2⟩ := drop_at hd
    rw [List.length_cons, show i + (c.length + 1) = i + 1 + c.length by omega] at h
    exact end_pass hL hi (by rw [e1]; omega) (by rw [e1]; omega) ho (ih L tail o (i + 1) v hL e2 ho ho2 h)
  | cmd h1 _ _ ih1 ih2 =>
    rename_i t gs ns ca c _ _
    intro L tail o i v hL hd ho ho2 h
    rw [List.cons_append, List.append_assoc] at hd
    obtain ⟨hi, e1, e2⟩ := drop_at hd
    have e3 : L.drop (i + 1 + ca.length) = c ++ tail := by rw [← List.drop_drop, e2]; simp
    rw [List.length_cons, List.length_append, show i + (ca.length + c.length + 1) = i + 1 + ca.length + c.length by omega] at h
    exact end_pass hL hi (by rw [e1]; omega) (by rw [e1]; omega) ho (ih1 L (c ++ tail) o (i + 1) v hL e2 ho ho2 (ih2 L tail o (i + 1 + ca.length) v hL e3 ho ho2 h))
  | grp h1 h2 _ _ ih1 ih2 =>
    rename_i d o0 e ns gs c ca _ _
    intro L tail o i v hL hd ho ho2 h
    rw [List.cons_append, List.append_assoc, List.cons_append] at hd
    obtain ⟨hi, e1, e2⟩ := drop_at hd
    have e3 : L.drop (i + 1 + c.length) = e :: (ca ++ tail) := by rw [← List.drop_drop, e2]; simp
    obtain ⟨hi2, e4, e5⟩ := drop_at e3
    rw [List.length_cons, List.length_append, List.length_cons, show i + (c.length + (ca.length + 1) + 1) = i + 1 + c.length + 1 + ca.length by omega] at h
    exact end_open hL hi (by rw [e1]; exact h1) (by omega) (ih1 L (e :: (ca ++ tail)) (o + 1) (i + 1) v hL e2 (by omega) (by omega) (end_close hL hi2 (by rw [e4]; exact h2) ho (by omega) (ih2 L tail o (i + 1 + c.length + 1) v hL e5 ho (by omega) h)))
/-- A group's end. -/
theorem end_ev {d : Nat} (hdd : d ≤ 64) {ns : List S38} {c : List S44} (h : Fl d (.inl ns) c) {L tail : List S44} {o0 e : S44} {i : Nat} (hL : L.length ≤ 4194304) (hd : L.drop i = o0 :: (c ++ e :: tail)) (h1 : o0.f0 = 2) (h2 : e.f0 = 3) : Ev (fun k => variorumref06_End.f k L (i : Int)) ((i + 1 + c.length : Nat) : Int) := by
  obtain ⟨hi, e1, e2⟩ := drop_at hd
  have e3 : L.drop (i + 1 + c.length) = e :: tail := by rw [← List.drop_drop, e2]; simp
  obtain ⟨hi2, e4, e5⟩ := drop_at e3
  have := end_open hL hi (by rw [e1]; exact h1) (o := 0) (by omega) (end_over h L (e :: tail) 1 (i + 1) _ hL e2 (by omega) (by omega) (end_last hi2 (by rw [e4]; exact h2)))
  exact this

/-! ## Nodes -/
theorem nodes_fl {d : Nat} {x : List S38 ⊕ List (List S38)} {c : List S44} (h : Fl d x c) : d ≤ 64 → match x with
    | .inl ns => ∀ (L : List S44) (i : Nat) (out : List S38), L.length ≤ 4194304 → L.drop i = c → i ≤ L.length → out.length ≤ i → Ev (fun k => variorumref06_nodes.l0 k L out (i : Int)) (out ++ ns)
    | .inr gs => ∀ (L tail : List S44) (i : Nat) (out : List S38) (txt : ByteArray) (acc : List (List S38)) (at_ : Int) (v : List S38), L.length ≤ 4194304 → L.drop i = c ++ tail → acc.length ≤ i → i ≤ L.length → Ev (fun k => variorumref06_nodes.l1 k L out ((i + c.length : Nat) : Int) true txt (acc ++ gs) at_) v → Ev (fun k => variorumref06_nodes.l1 k L out (i : Int) true txt acc at_) v := by
  induction h with
  | nil d =>
    intro _ L i out hL hd hi ho
    have hlen := congrArg List.length hd
    rw [List.length_drop, List.length_nil] at hlen
    refine Ev.step (f := fun _ => some _) (fun k => ?_) (Ev.now _)
    simp only [variorumref06_nodes.l0]
    rw [if_neg (by omega), List.append_nil]
  | nog d => intro _ L tail i out txt acc at_ v _ _ _ _ h; rw [List.append_nil] at h; exact h
  | word h1 hc ih =>
    rename_i d t ns c
    intro hdd L i out hL hd hi ho
    obtain ⟨hil, e1, e2⟩ := drop_at hd
    have ih := ih hdd L (i + 1) (out ++ [(⟨false, t.f1, [], t.f2⟩ : S38)]) hL e2 (by omega) (by rw [List.length_append, List.length_singleton]; omega)
    rw [List.append_assoc] at ih
    refine Ev.step (f := fun k => variorumref06_nodes.l1 k L out ((i + 1 : Nat) : Int) false t.f1 [] t.f2) (fun k => ?_) (Ev.step (f := fun k => variorumref06_nodes.j2 k L out ((i + 1 : Nat) : Int) false false t.f1 [] t.f2) (fun k => ?_) (Ev.step (fun k => ?_) ih))
    · simp only [variorumref06_nodes.l0, rd44 hil, e1]
      rw [if_pos (by omega), if_pos (by omega), succ_w i (by omega), h1]; rfl
    · simp only [variorumref06_nodes.l1]
      rw [if_neg (by decide)]
    · simp only [variorumref06_nodes.j2]
      rw [if_neg (by decide), if_pos (by omega)]
  | cmd h1 hg hc ih1 ih2 =>
    rename_i d t gs ns ca c
    intro hdd L i out hL hd hi ho
    obtain ⟨hil, e1, e2⟩ := drop_at hd
    have e3 : L.drop (i + 1 + ca.length) = c := by rw [← List.drop_drop, e2]; simp
    have hlen := congrArg List.length e2
    rw [List.length_drop, List.length_append] at hlen
    have ih := ih2 hdd L (i + 1 + ca.length) (out ++ [(⟨true, t.f1, gs, t.f2⟩ : S38)]) hL e3 (by omega) (by rw [List.length_append, List.length_singleton]; omega)
    rw [List.append_assoc] at ih
    refine Ev.step (f := fun k => variorumref06_nodes.l1 k L out ((i + 1 : Nat) : Int) true t.f1 [] t.f2) (fun k => ?_) (ih1 hdd L c (i + 1) out t.f1 [] t.f2 _ hL e2 (by simp) (by omega) ?_)
    · simp only [variorumref06_nodes.l0, rd44 hil, e1]
      rw [if_pos (by omega), if_pos (by omega), succ_w i (by omega), h1]; rfl
    · rw [List.nil_append]
      refine Ev.step (f := fun k => variorumref06_nodes.j2 k L out ((i + 1 + ca.length : Nat) : Int) false true t.f1 gs t.f2) (fun k => ?_) (Ev.step (fun k => ?_) ih)
      · simp only [variorumref06_nodes.l1]
        rw [if_pos trivial]
        by_cases q : i + 1 + ca.length < L.length
        · have hno : noO c := by
            have := noO_fl hc (r := []) trivial
            rwa [List.append_nil] at this
          have hq := List.drop_eq_getElem_cons q
          rw [e3] at hq
          rw [if_pos (by omega), if_pos (by omega), rd44 q]
          rw [hq] at hno
          have : (L[i + 1 + ca.length].f0 == 2) = false := beq_eq_false_iff_ne.mpr hno
          rw [this]
        · rw [if_neg (by omega)]
      · simp only [variorumref06_nodes.j2]
        rw [if_neg (by decide), if_pos (by omega)]
  | grp h1 h2 hn hg ih1 ih2 =>
    rename_i d o0 e ns gs c ca
    intro hdd L tail i out txt acc at_ v hL hd ha hi h
    rw [List.cons_append, List.append_assoc, List.cons_append] at hd
    obtain ⟨hil, e1, e2⟩ := drop_at hd
    have e3 : L.drop (i + 1 + c.length) = e :: (ca ++ tail) := by rw [← List.drop_drop, e2]; simp
    obtain ⟨hi2, e4, e5⟩ := drop_at e3
    have hend := end_ev (by omega) hn hL hd h1 h2
    have hsl : (L.take (i + 1 + c.length)).drop (i + 1) = c := by
      rw [List.drop_take, e2, show i + 1 + c.length - (i + 1) = c.length by omega]; simp
    have hc : c.length ≤ 4194304 := by omega
    have ihn := ih1 (by omega) c 0 [] hc (List.drop_zero ..) (Nat.zero_le _) (Nat.le_refl _)
    rw [List.nil_append] at ihn
    have hnf : Ev (fun k => variorumref06_nodes.f k c) ns := Ev.step (fun k => by simp only [variorumref06_nodes.f]; rfl) ihn
    rw [List.length_cons, List.length_append, List.length_cons, show i + (c.length + (ca.length + 1) + 1) = i + 1 + c.length + 1 + ca.length by omega] at h
    have ih := ih2 hdd L tail (i + 1 + c.length + 1) out txt (acc ++ [ns]) at_ v hL e5 (by rw [List.length_append, List.length_singleton]; omega) (by omega) (by rw [List.append_assoc]; exact h)
    refine Ev.step (f := fun k => variorumref06_nodes.j2 k L out (i : Int) true true txt acc at_) (fun k => ?_) (Ev.step (f := fun k => (variorumref06_End.f k L (i : Int)).bind fun t133 => (if 0 ≤ (wrap64 ((i : Int) + 1)) then (if (wrap64 ((i : Int) + 1)) ≤ t133 then (if t133 ≤ (L.length : Int) then ((variorumref06_nodes.f k ((L.take (t133 : Int).toNat).drop ((wrap64 ((i : Int) + 1)) : Int).toNat)).bind fun t138 => (if acc.length < 5864062014805 then (variorumref06_nodes.l1 k L out (wrap64 (t133 + 1)) true txt (acc ++ [t138]) at_) else (none))) else (none)) else (none)) else (none))) (fun k => ?_) (Ev.bind hend ?_))
    · simp only [variorumref06_nodes.l1]
      rw [if_pos trivial, if_pos (by omega), if_pos (by omega), rd44 hil, e1, h1]; rfl
    · simp only [variorumref06_nodes.j2]
      rw [if_pos trivial]
    · simp only [succ_w i (show i ≤ 1000000000000000 by omega), succ_w (i + 1 + c.length) (show i + 1 + c.length ≤ 1000000000000000 by omega), Int.toNat_natCast]
      have q1 : (0 : Int) ≤ ((i + 1 : Nat) : Int) := by omega
      have q2 : ((i + 1 : Nat) : Int) ≤ ((i + 1 + c.length : Nat) : Int) := by omega
      have q3 : ((i + 1 + c.length : Nat) : Int) ≤ (L.length : Int) := by omega
      have q4 : acc.length < 5864062014805 := by omega
      simp only [if_pos q1, if_pos q2, if_pos q3, if_pos q4, hsl]
      exact Ev.bind hnf ih
theorem nodes_ev {ns : List S38} {c : List S44} (h : Fl 64 (.inl ns) c) (hc : c.length ≤ 4194304) : Ev (fun k => variorumref06_nodes.f k c) ns := by
  have := nodes_fl h (Nat.le_refl _) c 0 [] hc (List.drop_zero ..) (Nat.zero_le _) (Nat.le_refl _)
  rw [List.nil_append] at this
  exact Ev.step (fun k => by simp only [variorumref06_nodes.f]; rfl) this
/-- The document's Parse tells what the parser does. -/
theorem rparse_ev (l : List S44) (hl : l.length ≤ 4194304) : Ev (fun k => variorumref06_Parse.f k l) (pv l) := by
  have hlen := rest_len l 0
  have hk := rest_kinds l 0
  have hr : (rest l 0).length ≤ 4194304 := by omega
  have hf := fault_ev (rest l 0) hr hk
  unfold variorumref06_Parse.f pv
  refine Ev.bind (real_ev l hl) (Ev.bind hf ?_)
  by_cases c : (sN ((rest l 0).length + 1) 0 (rest l 0)).2.2.1 = 0
  · obtain ⟨cs, h1, h2, h3⟩ := (sound ((rest l 0).length + 1)).1 0 (rest l 0) (by omega) (Nat.lt_succ_self _) hk c
    have h0 : (sN ((rest l 0).length + 1) 0 (rest l 0)).2.1 = [] := by
      cases hq : (sN ((rest l 0).length + 1) 0 (rest l 0)).2.1 with
      | nil => rfl
      | cons t r => rw [hq] at h3; exact absurd h3.1 (by omega)
    rw [h0, List.append_nil] at h1
    have e : Fs (rest l 0) [] false = (0, 0) := by
      have := fs_fl h2 [] [] (by simp) trivial
      rw [List.append_nil, ← h1] at this
      rw [this]; rfl
    rw [e, if_pos c]
    simp only [if_true]
    rw [← h1] at h2
    exact Ev.bind (nodes_ev h2 hr) (Ev.now _)
  · have e := (fault_is ((rest l 0).length + 1)).1 0 (rest l 0) (by omega) (Nat.lt_succ_self _) hk c [] rfl
    rw [e, if_neg c]
    simp only [if_neg c]
    exact Ev.now _
end Go.Proofs.Ytjppjlhhdfkloaa.Pure

/- What all laws of layer 16 share: an operation that came in, what it does in the law's world, the run of all of them. -/
import Derived.Test.YtldmlmojokicaaaGo
import Derived.Test.YtldmlmojokicaaaGro
import Derived.Test.YtldmlmojokicaaaGhw
namespace Go.Proofs.Ytldmlmojokicaaa
open Go.RowKit Go.Shelf Go.Maps

/-- all operations, one behind the other -/
def grun (P : Pm) (G : GS) (l : List Opg) : GS := l.foldl (fun G o => (gdo P G o).2) G
theorem grun_inv {P : Pm} {G : GS} (h : GInv P G) (l : List Opg) : GInv P (grun P G l) := foldl_keep (GInv P) _ (fun _ o h => gdo_inv h o) l G h
theorem grun_take (P : Pm) (G : GS) (l : List Opg) (k : Nat) (hk : k < l.length) : grun P G (l.take (k + 1)) = (gdo P (grun P G (l.take k)) (l.getD k opg0)).2 :=
  foldl_take (fun G o => (gdo P G o).2) opg0 G l k hk
theorem Gops.at {w : World} {a : Option Addr} {l : List Opg} (h : Gops w a l) (k : Nat) (hk : k < l.length) :
    ∃ b off ok okg okv okr op oi og ow ou ox ov, a = some ⟨b, off, none⟩ ∧ b < w.heap.size ∧ l.getD k opg0 = ⟨ok, okg, okv, okr, op, oi, og, ⟨ow, ou, ox⟩, ov⟩ ∧ ov < 2 ^ 64 ∧
      w.cell? ⟨b, off + k * 11, none⟩ = some (.int .i64 ok) ∧ w.cell? ⟨b, off + k * 11 + 1, none⟩ = some (.int .i64 okg) ∧ w.cell? ⟨b, off + k * 11 + 2, none⟩ = some (.int .i64 okv) ∧ w.cell? ⟨b, off + k * 11 + 3, none⟩ = some (.int .i64 okr) ∧
      w.cell? ⟨b, off + k * 11 + 4, none⟩ = some (.int .i64 op) ∧ w.cell? ⟨b, off + k * 11 + 5, none⟩ = some (.int .i64 oi) ∧ w.cell? ⟨b, off + k * 11 + 6, none⟩ = some (.int .i64 og) ∧
      w.cell? ⟨b, off + k * 11 + 7, none⟩ = some (.bool ow) ∧ w.cell? ⟨b, off + k * 11 + 8, none⟩ = some (.bool ou) ∧ w.cell? ⟨b, off + k * 11 + 9, none⟩ = some (.bool ox) ∧ w.cell? ⟨b, off + k * 11 + 10, none⟩ = some (.int .u64 (ov : Int)) := by
  rcases h with h | ⟨b, off, h1, h2, h3⟩
  · rw [h] at hk; simp at hk
  · obtain ⟨g1, g2⟩ := h3 k hk
    obtain ⟨⟨ok, okg, okv, okr, op, oi, og, ⟨ow, ou, ox⟩, ov⟩, ho⟩ : ∃ o, l.getD k opg0 = o := ⟨_, rfl⟩
    rw [ho] at g1 g2
    exact ⟨b, off, ok, okg, okv, okr, op, oi, og, ow, ou, ox, ov, h1, h2, ho, g1, g2 0 (by decide), g2 1 (by decide), g2 2 (by decide), g2 3 (by decide), g2 4 (by decide), g2 5 (by decide), g2 6 (by decide), g2 7 (by decide), g2 8 (by decide), g2 9 (by decide), g2 10 (by decide)⟩
theorem gdo24 {w0 w : World} {A : GAd} {V : GVl} {G : GS} {ts : List Thing} {wb : Nat} (H : HG w0 w A P24 V G (wld wb A :: ts)) (hI : GInv P24 G) (ok okg okv okr op oi og : Int) (ow ou ox : Bool) (ov : Nat) (hv : ov < 2 ^ 64) :
    Calls Try.prog 14 #[.pointer (some ⟨wb, 0, none⟩), .agg #[.int .i64 ok, .int .i64 okg, .int .i64 okv, .int .i64 okr, .int .i64 op, .int .i64 oi, .int .i64 og, .bool ow, .bool ou, .bool ox, .int .u64 (ov : Int)]] w
      fun e w' => (∃ x, e = .returned (.tuple #[.int .i64 x, .bool (gdo P24 G ⟨ok, okg, okv, okr, op, oi, og, ⟨ow, ou, ox⟩, ov⟩).1.2])) ∧ ∃ V', HG w0 w' A P24 V' (gdo P24 G ⟨ok, okg, okv, okr, op, oi, og, ⟨ow, ou, ox⟩, ov⟩).2 (wld wb A :: ts) := by
  have h1 := loose_le hI
  have h2 := hI.s.le
  exact (gdo_any H (by decide) (by omega) ⟨ok, okg, okv, okr, op, oi, og, ⟨ow, ou, ox⟩, ov⟩ hv).mono fun e w' h => ⟨⟨_, h.1⟩, h.2⟩
/-- what loose frames there are, is few -/
theorem GInv.few {P : Pm} {G : GS} (h : GInv P G) : G.loose.length ≤ 1000 := by
  have h1 := loose_le h
  have h2 := h.s.le
  omega
theorem many_any {w0 w : World} {A : GAd} {P : Pm} {V : GVl} {G : GS} {ts : List Thing} (H : HG w0 w A P V G ts) :
    Calls Try.prog 22 #[.pointer (some ⟨A.tp, 0, none⟩)] w fun e w' => e = .returned (.int .i64 (G.l.length : Int)) ∧ w = w' := by
  have c1 := H.tx.t.hdr.cell (k := 1) rfl
  have lt := H.tx.t.hdr.lt
  obtain ⟨a, c, e⟩ : ∃ a c, V.tv = .slice a G.l.length c := by
    rcases H.tx.t.row.view with ⟨h1, h2⟩ | ⟨g, cap, rest, h1, _⟩
    · rw [h1, h2]; exact ⟨_, _, rfl⟩
    · exact ⟨_, _, h1⟩
  rw [e] at c1
  obtain ⟨n, hn⟩ : ∃ n, G.l.length = n := ⟨_, rfl⟩
  rw [hn] at c1 ⊢
  clear H e hn
  go_enter Try.func22, Try.ntmps22
  go_wp2_with fail
  go_ret
  exact ⟨rfl, rfl⟩
end Go.Proofs.Ytldmlmojokicaaa
